/- Packing, plainly: the laws over items. -/
import Derived.Test.YtbjpjbopfhbkmaaQ3
set_option linter.unusedVariables false
set_option linter.unusedSimpArgs false
namespace Go.Cb
open Go.RowKit

abbrev Item := S_cantonlaw02_Item
def WI (x : Item) : Prop := InI .i64 x.What ∧ (InI .i64 x.N ∧ (InS x.S ∧ InL (fun x => InS x) x.L))
def m2 (s : ByteArray) : Nat := min s.size 20000
def wS (L : List ByteArray) : Nat := (L.map m2).sum
def wI (x : Item) : Nat := m2 x.S + x.L.length + wS x.L
def wA (l : List Item) : Nat := (l.map wI).sum
theorem wS_cons (s : ByteArray) (L : List ByteArray) : wS (s :: L) = m2 s + wS L := by simp [wS]
theorem wA_cons (x : Item) (l : List Item) : wA (x :: l) = wI x + wA l := by simp [wA]
theorem m2_mem {L : List ByteArray} {s : ByteArray} (h : s ∈ L) : m2 s ≤ wS L := by
  induction L with
  | nil => simp at h
  | cons a L ih =>
    rw [wS_cons]
    rcases List.mem_cons.1 h with rfl | h
    · omega
    · have := ih h; omega
theorem wI_mem {l : List Item} {x : Item} (h : x ∈ l) : wI x ≤ wA l := by
  induction l with
  | nil => simp at h
  | cons a l ih =>
    rw [wA_cons]
    rcases List.mem_cons.1 h with rfl | h
    · omega
    · have := ih h; omega
theorem great_l2 (rec : Int → Int → Option Bool) (l2 : List Item) (i : Nat) (hi : i < l2.length) (hl : l2.length ≤ 1000000000000) (hL : l2[i].L.length ≤ 140737488351232) : ∀ (f n k : Nat), n ≤ 1000000000000000 → k ≤ l2[i].L.length → (n < 20000 → l2[i].L.length - k + 1 ≤ f) → 1 ≤ f →
    ∃ n' : Nat, m_cantonlaw02_Great_l2 rec l2 (i : Int) f (n : Int) (k : Int) = rec (n' : Int) ((i + 1 : Nat) : Int) ∧ (n' < 20000 → n' = n + wS (l2[i].L.drop k)) ∧ n' ≤ 1000000000000000
  | 0, n, k, _, _, _, h => by omega
  | f + 1, n, k, h1, h2, h3, _ => by
    unfold m_cantonlaw02_Great_l2
    have e1 : IntKind.i64.wrap ((i : Int) + 1) = ((i + 1 : Nat) : Int) := by rw [w64 (by omega) (by omega)]; rfl
    rw [idx_lt hi]
    simp only [Option.bind_some]
    rw [e1]
    by_cases hk : k < l2[i].L.length
    · rw [if_pos (by simpa using hk)]
      by_cases hn : n < 20000
      · rw [if_pos (by simp; omega), idx_lt hk]
        simp only [Option.bind_some]
        have e2 : IntKind.i64.wrap ((k : Int) + 1) = ((k + 1 : Nat) : Int) := by rw [w64 (by omega) (by omega)]; rfl
        have e3 : IntKind.i64.wrap ((n : Int) + (min ((l2[i].L[k].size : Nat) : Int) 20000)) = ((n + m2 l2[i].L[k] : Nat) : Int) := by
          have : (min ((l2[i].L[k].size : Nat) : Int) 20000) = ((m2 l2[i].L[k] : Nat) : Int) := by unfold m2; omega
          have h20 : m2 l2[i].L[k] ≤ 20000 := by unfold m2; omega
          rw [this, w64 (by omega) (by omega)]; rfl
        have h20 : m2 l2[i].L[k] ≤ 20000 := by unfold m2; omega
        rw [e2, e3]
        obtain ⟨n', h4, h5, h6⟩ := great_l2 rec l2 i hi hl hL f (n + m2 l2[i].L[k]) (k + 1) (by omega) (by omega) (fun _ => by have := h3 hn; omega) (by have := h3 hn; omega)
        refine ⟨n', h4, fun h => ?_, h6⟩
        rw [h5 h, List.drop_eq_getElem_cons hk, wS_cons]
        omega
      · rw [if_neg (by simp; omega)]
        exact ⟨n, rfl, fun h => absurd h hn, h1⟩
    · rw [if_neg (by simpa using hk)]
      refine ⟨n, rfl, fun h => ?_, h1⟩
      rw [List.drop_eq_nil_of_le (by omega)]
      simp [wS]
theorem great_l1 (l2 : List Item) (hw : ∀ x ∈ l2, WI x) (hl : l2.length ≤ 1000000000000) : ∀ (f n i : Nat), n ≤ 1000000000000000 → i ≤ l2.length → (n < 20000 → l2.length ≤ n ∧ l2.length - i + 1 ≤ f) → 1 ≤ f →
    ∃ b, m_cantonlaw02_Great_l1 l2 f (n : Int) (i : Int) = some b ∧ (b = false → n + wA (l2.drop i) < 20000)
  | 0, n, i, _, _, _, h => by omega
  | f + 1, n, i, h1, h2, h3, _ => by
    unfold m_cantonlaw02_Great_l1
    by_cases hi : i < l2.length
    · rw [if_pos (by simpa using hi)]
      by_cases hn : n < 20000
      · have hwi := hw l2[i] (List.getElem_mem _)
        have hLi : l2[i].L.length ≤ 140737488351232 := hwi.2.2.2.1
        rw [if_pos (by simp; omega), idx_lt hi]
        simp only [Option.bind_some]
        have h20 : m2 l2[i].S ≤ 20000 := by unfold m2; omega
        have e3 : IntKind.i64.wrap ((IntKind.i64.wrap ((n : Int) + (min ((l2[i].S.size : Nat) : Int) 20000))) + (l2[i].L.length : Int)) = ((n + m2 l2[i].S + l2[i].L.length : Nat) : Int) := by
          have : (min ((l2[i].S.size : Nat) : Int) 20000) = ((m2 l2[i].S : Nat) : Int) := by unfold m2; omega
          rw [this, w64 (n := (n : Int) + _) (by omega) (by omega), w64 (by omega) (by omega)]; omega
        rw [e3]
        obtain ⟨n', h4, h5, h6⟩ := great_l2 (m_cantonlaw02_Great_l1 l2 f) l2 i hi hl hLi 20002 (n + m2 l2[i].S + l2[i].L.length) 0 (by omega) (by omega) (fun h => by omega) (by omega)
        rw [show ((0 : Nat) : Int) = 0 from rfl] at h4
        rw [h4]
        have h7 := h3 hn
        obtain ⟨b, h8, h9⟩ := great_l1 l2 hw hl f n' (i + 1) h6 (by omega) (fun h => by have := h5 h; omega) (by omega)
        refine ⟨b, h8, fun hb => ?_⟩
        have h10 := h9 hb
        have h11 := h5 (by omega)
        rw [List.drop_zero] at h11
        rw [List.drop_eq_getElem_cons hi, wA_cons]
        unfold wI
        omega
      · rw [if_neg (by simp; omega)]
        refine ⟨_, rfl, fun h => ?_⟩
        simp at h
        omega
    · rw [if_neg (by simpa using hi)]
      refine ⟨_, rfl, fun h => ?_⟩
      rw [List.drop_eq_nil_of_le (by omega)]
      simp [wA] at h ⊢
      omega
theorem great (l : List Item) (h : InL (fun x => WI x) l) (hs : l.length ≤ 1000000000000) : ∃ b, m_cantonlaw02_Great l = some b ∧ (b = false → l.length + wA l < 20000) := by
  obtain ⟨b, h1, h2⟩ := great_l1 l h.2 hs 20002 l.length 0 (by omega) (by omega) (fun h => ⟨by omega, by omega⟩) (by omega)
  rw [List.drop_zero] at h2
  exact ⟨b, h1, h2⟩
theorem great_big (l : List Item) (hs : 20000 ≤ l.length) : m_cantonlaw02_Great l = some true := by
  unfold m_cantonlaw02_Great m_cantonlaw02_Great_l1
  by_cases h : (0 : Int) < (l.length : Int)
  · rw [if_pos (by simpa using h), if_neg (by simp; omega)]
    congr 1
    simp; omega
  · omega
/-- is it too much, or is it small? -/
theorem great_two (l : List Item) (h : InL (fun x => WI x) l) : m_cantonlaw02_Great l = some true ∨ (m_cantonlaw02_Great l = some false ∧ l.length + wA l < 20000) := by
  by_cases hb : 20000 ≤ l.length
  · exact .inl (great_big l hb)
  · obtain ⟨b, h1, h2⟩ := great l h (by omega)
    cases b
    · exact .inr ⟨h1, h2 rfl⟩
    · exact .inl h1

/-! ### what items are as bytes -/
def encI (x : Item) : List Int := if x.What = 0 then (if 0 ≤ x.N ∧ x.N ≤ 281474976710656 then enc x.N.toNat else []) else if x.What = 1 then encT x.S else if x.What = 2 then encL x.L else []
def badI (x : Item) : Bool := decide (x.What = 0) && !decide (0 ≤ x.N ∧ x.N ≤ 281474976710656)
structure Small (x : Item) : Prop where
  s : x.S.size ≤ 20000
  l : x.L.length ≤ 20000
  t : ∀ s ∈ x.L, s.size ≤ 20000
theorem small_of {l : List Item} (h : l.length + wA l < 20000) : ∀ x ∈ l, Small x := by
  intro x hx
  have h1 := wI_mem hx
  unfold wI at h1
  refine ⟨?_, by omega, fun s hs => ?_⟩
  · have : m2 x.S < 20000 := by omega
    unfold m2 at this
    omega
  · have := m2_mem hs
    have : m2 s < 20000 := by omega
    unfold m2 at this
    omega
theorem wL_wS (L : List ByteArray) : wL L = wS L + 7 * L.length := by
  induction L with
  | nil => rfl
  | cons s L ih =>
    rw [wS_cons]
    simp only [wL, List.map_cons, List.sum_cons, List.length_cons] at ih ⊢
    rw [ih]
    unfold wT m2
    omega
theorem flat_len (L : List ByteArray) (h : ∀ s ∈ L, s.size ≤ 20000) : (L.flatMap encT).length ≤ wL L := by
  induction L with
  | nil => simp
  | cons s L ih =>
    have h1 := ih fun t ht => h t (by simp [ht])
    have h2 := h s (by simp)
    have h3 := enc_len s.size (by omega)
    have h4 := bytesOf_len s
    rw [List.flatMap_cons, List.length_append]
    simp only [wL, List.map_cons, List.sum_cons, encT, List.length_append] at h1 ⊢
    have h5 : wT s = min s.size 20000 + 7 := rfl
    omega
theorem encI_len {x : Item} (h : Small x) : (encI x).length ≤ 21 + 8 * wI x := by
  unfold encI wI
  split
  · split
    · have := enc_len x.N.toNat (by omega)
      omega
    · simp
  · split
    · have := enc_len x.S.size (by have := h.s; omega)
      have h4 := bytesOf_len x.S
      have := h.s
      simp only [encT, List.length_append]
      unfold m2
      omega
    · split
      · have := enc_len x.L.length (by have := h.l; omega)
        have h1 := flat_len x.L h.t
        rw [wL_wS] at h1
        simp only [encL, List.length_append]
        omega
      · simp
/-- an item is written: by the program, and by the document. -/
def stepW (num : List Int → Bool → Int → Option (List Int × Bool)) (text : List Int → Bool → ByteArray → Option (List Int × Bool)) (texts : List Int → Bool → List ByteArray → Option (List Int × Bool)) (x : Item) (l : List Int) (b : Bool) : Option (List Int × Bool) :=
  if x.What = 0 then num l b x.N else if x.What = 1 then text l b x.S else if x.What = 2 then texts l b x.L else some (l, b)
theorem stepP {x : Item} (h : Small x) (l : List Int) (b : Bool) (hl : l.length ≤ 1000000) : stepW m_pack_Writer_Num m_pack_Writer_Text m_pack_Writer_Texts x l b = some (l ++ encI x, b || badI x) := by
  have hs := h.s
  have hL := h.l
  unfold stepW encI badI
  by_cases h0 : x.What = 0
  · simp only [h0, if_true]
    by_cases hn : 0 ≤ x.N ∧ x.N ≤ 281474976710656
    · obtain ⟨n, hn'⟩ : ∃ n : Nat, x.N = (n : Int) := ⟨x.N.toNat, by omega⟩
      rw [if_pos hn, hn', pw_num l b n (by omega) (by simp [LIM]; omega)]
      rw [hn'] at hn
      simp [hn]
    · rw [if_neg hn, pw_bad l b x.N (by omega)]
      simp [hn]
  · simp only [h0, if_false]
    by_cases h1 : x.What = 1
    · simp only [h1, if_true]
      rw [pw_text l b x.S (by omega) (by simp [LIM]; omega)]
      simp
    · simp only [h1, if_false]
      by_cases h2 : x.What = 2
      · simp only [h2, if_true]
        have hw := wL_wS x.L
        have : wL x.L ≤ 20007 * x.L.length := by
          clear hw
          have ht := h.t
          revert ht
          generalize x.L = L
          intro ht
          induction L with
          | nil => simp [wL]
          | cons s L ih =>
            have := ih fun t h => ht t (by simp [h])
            simp only [wL, List.map_cons, List.sum_cons, List.length_cons] at this ⊢
            unfold wT at *
            omega
        rw [pw_texts l b x.L (by omega) h.t (by simp [LIM]; omega)]
        simp
      · simp [h2]
theorem stepR {x : Item} (h : Small x) (l : List Int) (b : Bool) (hl : l.length ≤ 1000000) : stepW m_cantonref02_Writer_Num m_cantonref02_Writer_Text m_cantonref02_Writer_Texts x l b = stepW m_pack_Writer_Num m_pack_Writer_Text m_pack_Writer_Texts x l b := by
  have hs := h.s
  have hL := h.l
  unfold stepW
  by_cases h0 : x.What = 0
  · simp only [h0, if_true]
    rw [rw_num l b x.N (by simp [LIM]; omega)]
  · simp only [h0, if_false]
    by_cases h1 : x.What = 1
    · simp only [h1, if_true]
      rw [rw_text l b x.S (by omega) (by simp [LIM]; omega)]
    · simp only [h1, if_false]
      by_cases h2 : x.What = 2
      · simp only [h2, if_true]
        have : wL x.L ≤ 20007 * x.L.length := by
          have ht := h.t
          revert ht
          generalize x.L = L
          intro ht
          induction L with
          | nil => simp [wL]
          | cons s L ih =>
            have := ih fun t h => ht t (by simp [h])
            simp only [wL, List.map_cons, List.sum_cons, List.length_cons] at this ⊢
            unfold wT at *
            omega
        rw [pw_texts l b x.L (by omega) h.t (by simp [LIM]; omega), rw_texts l b x.L (by omega) h.t (by simp [LIM]; omega)]
      · simp [h2]
theorem writes_l1 (l2 : List Item) (hl : l2.length ≤ 20000) (hs : ∀ x ∈ l2, Small x) : ∀ (k i : Nat) (l : List Int) (b : Bool), i + k = l2.length → l.length + 21 * (l2.length - i) + 8 * wA (l2.drop i) ≤ 1000000 →
    m_cantonlaw02_PackWrites_l1 l2 true (k + 1) (i : Int) l b l b = some true
  | 0, i, l, b, h, hb => by
    unfold m_cantonlaw02_PackWrites_l1
    rw [if_neg (by simp; omega), pw_bytes _ _ (by simp [LIM]; omega), rw_bytes _ _ (by simp [LIM]; omega)]
    simp [sEq_self]
  | k + 1, i, l, b, h, hb => by
    have hi : i < l2.length := by omega
    have hx := hs l2[i] (List.getElem_mem _)
    have hP := stepP hx l b (by omega)
    have hR := stepR hx l b (by omega)
    have hlen := encI_len hx
    rw [List.drop_eq_getElem_cons hi, wA_cons] at hb
    have ih := writes_l1 l2 hl hs k (i + 1) (l ++ encI l2[i]) (b || badI l2[i]) (by omega) (by rw [List.length_append]; omega)
    have e1 : IntKind.i64.wrap ((i : Int) + 1) = ((i + 1 : Nat) : Int) := by rw [w64 (by omega) (by omega)]; rfl
    rw [hP] at hR
    unfold stepW at hP hR
    unfold m_cantonlaw02_PackWrites_l1
    simp only [m_cantonlaw02_PackWrites_j1, e1]
    rw [if_pos (by simp; omega), idx_lt hi]
    simp only [Option.bind_some]
    by_cases h0 : l2[i].What = 0
    · rw [if_pos h0] at hP hR
      rw [if_pos (by simpa using h0), hP, hR]
      exact ih
    · rw [if_neg h0] at hP hR
      rw [if_neg (by simpa using h0)]
      by_cases h1 : l2[i].What = 1
      · rw [if_pos h1] at hP hR
        rw [if_pos (by simpa using h1), hP, hR]
        exact ih
      · rw [if_neg h1] at hP hR
        rw [if_neg (by simpa using h1)]
        by_cases h2 : l2[i].What = 2
        · rw [if_pos h2] at hP hR
          rw [if_pos (by simpa using h2), hP, hR]
          exact ih
        · rw [if_neg h2] at hP
          rw [if_neg (by simpa using h2)]
          have := Option.some.inj hP
          rw [Prod.mk.injEq] at this
          rw [← this.1, ← this.2] at ih
          exact ih
theorem pure_writes (l : List Item) (h : InL (fun x => WI x) l) : m_cantonlaw02_PackWrites l = some true := by
  unfold m_cantonlaw02_PackWrites
  rw [head_t]
  simp only [Option.bind_some]
  rcases great_two l h with hg | ⟨hg, hw⟩
  · rw [hg]; rfl
  · rw [hg]
    simp only [Option.bind_some, Bool.false_eq_true, if_false]
    rw [show ((l.length : Int) - 0 : Int).toNat + 1 = l.length + 1 from by omega]
    exact writes_l1 l (by omega) (small_of hw) l.length 0 [] false (by omega) (by simp; omega)

/-! ### PackReads, PackStays, PackBack -/
theorem same_l1 (l : List ByteArray) (hl : l.length ≤ 1000000000000) : ∀ (k i f : Nat), i + k = l.length → k + 1 ≤ f → m_cantonref01_Same_l1 l l f (i : Int) = some true
  | k, i, 0, h, h' => by omega
  | 0, i, f + 1, h, h' => by
    unfold m_cantonref01_Same_l1
    rw [if_neg (by simp; omega)]
  | k + 1, i, f + 1, h, h' => by
    have hi : i < l.length := by omega
    unfold m_cantonref01_Same_l1
    rw [if_pos (by simp; omega), idx_lt hi]
    simp only [Option.bind_some, sEq_self]
    rw [if_neg (by simp), show IntKind.i64.wrap ((i : Int) + 1) = ((i + 1 : Nat) : Int) from by rw [w64 (by omega) (by omega)]; rfl]
    exact same_l1 l hl k (i + 1) f (by omega) (by omega)
theorem same_self (l : List ByteArray) (hl : l.length ≤ 1000000000000) : m_cantonref01_Same l l = some true := by
  unfold m_cantonref01_Same
  rw [if_neg (by simp)]
  exact same_l1 l hl l.length 0 _ (by omega) (by omega)
theorem rdTs_len : ∀ (k : Nat) (acc : List ByteArray) (l : List Int) (e : Int), Bs l → (rdTs k acc l e).1.length ≤ acc.length + l.length
  | 0, acc, l, e, hb => by unfold rdTs; split <;> simp
  | k + 1, acc, l, e, hb => by
    unfold rdTs
    split
    · simp
    · have h1 := rdT_len hb
      by_cases he : (rdT l).2.2 = 0
      · have h2 := rdTs_len k (acc ++ [(rdT l).1]) (rdT l).2.1 (rdT l).2.2 (rdT_bs hb)
        have h3 := h1.2 he
        simp only [List.length_append, List.length_singleton] at h2
        omega
      · rw [rdTs_err _ _ _ _ he]; simp
theorem rdL_len {l : List Int} (hb : Bs l) : (rdL l).1.length ≤ l.length := by
  unfold rdL
  obtain ⟨h1, h2, _⟩ := rd_bs (M := 281474976710656) hb
  have := rdTs_len (rd 281474976710656 l).1.toNat [] _ (rd 281474976710656 l).2.2 h1
  simp at this
  omega
theorem reads_l1 (l4 : List Item) (hl : l4.length ≤ 20000) : ∀ (k i : Nat) (l : List Int) (e : Int), i + k = l4.length → Bs l → l.length ≤ 1000000 →
    m_cantonlaw02_PackReads_l1 l4 true (k + 1) (i : Int) l e l e = some true
  | 0, i, l, e, h, hb, hll => by
    unfold m_cantonlaw02_PackReads_l1
    rw [if_neg (by simp; omega)]
  | k + 1, i, l, e, h, hb, hll => by
    have hi : i < l4.length := by omega
    have e1 : IntKind.i64.wrap ((i : Int) + 1) = ((i + 1 : Nat) : Int) := by rw [w64 (by omega) (by omega)]; rfl
    have hj : ∀ (l' : List Int) (e' : Int), Bs l' → l'.length ≤ 1000000 → m_cantonlaw02_PackReads_j2 (m_cantonlaw02_PackReads_l1 l4 true (k + 1)) (i : Int) l' e' l' e' = some true := by
      intro l' e' hb' hl'
      unfold m_cantonlaw02_PackReads_j2 m_cantonlaw02_PackReads_j3
      simp only [p_err, p_end, r_end, Option.bind_some, e1]
      rw [if_neg (by simp), if_neg (by simp)]
      exact reads_l1 l4 hl k (i + 1) l' e' (by omega) hb' hl'
    unfold m_cantonlaw02_PackReads_l1
    rw [if_pos (by simp; omega), idx_lt hi]
    simp only [Option.bind_some]
    by_cases he : e = 0
    · subst he
      by_cases h0 : l4[i].What = 0
      · rw [if_pos (by simpa using h0), pr_num l hb _ hll, rr_num l hb _ hll]
        simp only [Option.bind_some]
        rw [if_neg (by simp)]
        obtain ⟨h1, h2, _⟩ := rd_bs (M := l4[i].N) hb
        exact hj _ _ h1 (by omega)
      · rw [if_neg (by simpa using h0)]
        by_cases h1 : l4[i].What = 1
        · rw [if_pos (by simpa using h1), pr_text l hb hll, rr_text l hb hll]
          simp only [Option.bind_some, sEq_self]
          rw [if_neg (by simp)]
          exact hj _ _ (rdT_bs hb) (by have := (rdT_len hb).1; omega)
        · rw [if_neg (by simpa using h1)]
          by_cases h2 : l4[i].What = 2
          · rw [if_pos (by simpa using h2), pr_texts l hb hll, rr_texts l hb hll]
            simp only [Option.bind_some]
            rw [same_self _ (by have := rdL_len hb; omega)]
            simp only [Option.bind_some]
            rw [if_neg (by simp)]
            exact hj _ _ (rdL_inv hb).1 (by have := (rdL_inv hb).2; omega)
          · rw [if_neg (by simpa using h2)]
            exact hj _ _ hb hll
    · by_cases h0 : l4[i].What = 0
      · rw [if_pos (by simpa using h0), pr_err l e _ he, rr_err l e _ he]
        simp only [Option.bind_some]
        rw [if_neg (by simp)]
        exact hj _ _ hb hll
      · rw [if_neg (by simpa using h0)]
        by_cases h1 : l4[i].What = 1
        · rw [if_pos (by simpa using h1), pr_text_err l e he, rr_text_err l e he]
          simp only [Option.bind_some, sEq_self]
          rw [if_neg (by simp)]
          exact hj _ _ hb hll
        · rw [if_neg (by simpa using h1)]
          by_cases h2 : l4[i].What = 2
          · rw [if_pos (by simpa using h2), pr_texts_err l e he, rr_texts_err l e he]
            simp only [Option.bind_some]
            rw [same_self _ (by simp)]
            simp only [Option.bind_some]
            rw [if_neg (by simp)]
            exact hj _ _ hb hll
          · rw [if_neg (by simpa using h2)]
            exact hj _ _ hb hll
theorem pure_reads (l : List Int) (l4 : List Item) (h : InL (fun x => InI .u8 x) l) (h4 : InL (fun x => WI x) l4) : m_cantonlaw02_PackReads l l4 = some true := by
  unfold m_cantonlaw02_PackReads
  rw [head_t]
  simp only [Option.bind_some]
  rcases great_two l4 h4 with hg | ⟨hg, hw⟩
  · rw [hg]; rfl
  · rw [hg]
    simp only [Option.bind_some, Bool.false_eq_true, if_false]
    unfold m_cantonlaw02_PackReads_j1
    by_cases hl : (l.length : Int) > 20000
    · rw [if_pos (by simpa using hl)]
    · rw [if_neg (by simpa using hl), p_new _ (by simp [LIM]; omega), r_new _ (by simp [LIM]; omega)]
      simp only [Option.bind_some]
      rw [show ((l4.length : Int) - 0 : Int).toNat + 1 = l4.length + 1 from by omega]
      exact reads_l1 l4 (by omega) l4.length 0 l 0 (by omega) (Bs.of h) (by omega)

theorem stays_l2 (l4 : List Item) (hl : l4.length ≤ 20000) (e : Int) (he : e ≠ 0) : ∀ (k i : Nat) (l : List Int), i + k = l4.length → m_cantonlaw02_PackStays_l2 l4 e true (k + 1) (i : Int) l e = some true
  | 0, i, l, h => by
    unfold m_cantonlaw02_PackStays_l2
    rw [if_neg (by simp; omega)]
  | k + 1, i, l, h => by
    have e1 : IntKind.i64.wrap ((i : Int) + 1) = ((i + 1 : Nat) : Int) := by rw [w64 (by omega) (by omega)]; rfl
    unfold m_cantonlaw02_PackStays_l2
    rw [if_pos (by simp; omega), pr_err l e _ he]
    simp only [Option.bind_some]
    rw [pr_text_err l e he]
    simp only [Option.bind_some]
    rw [pr_texts_err l e he]
    simp only [Option.bind_some, sEq_self, p_err, p_end, m_cantonlaw02_PackStays_j3, e1]
    have := stays_l2 l4 hl e he k (i + 1) l (by omega)
    rw [show ((i + 1 : Nat) : Int) = (i : Int) + 1 from by omega] at this
    simp [he, this]
theorem stays_l3 (l4 : List Item) (hl : l4.length ≤ 20000) (e : Int) (he : e ≠ 0) : ∀ (k i : Nat) (l : List Int), i + k = l4.length → m_cantonlaw02_PackStays_l3 l4 e true (k + 1) (i : Int) l e = some true
  | 0, i, l, h => by
    unfold m_cantonlaw02_PackStays_l3
    rw [if_neg (by simp; omega)]
  | k + 1, i, l, h => by
    have e1 : IntKind.i64.wrap ((i : Int) + 1) = ((i + 1 : Nat) : Int) := by rw [w64 (by omega) (by omega)]; rfl
    unfold m_cantonlaw02_PackStays_l3
    rw [if_pos (by simp; omega), pr_err l e _ he]
    simp only [Option.bind_some]
    rw [pr_text_err l e he]
    simp only [Option.bind_some]
    rw [pr_texts_err l e he]
    simp only [Option.bind_some, sEq_self, p_err, p_end, m_cantonlaw02_PackStays_j5, e1]
    have := stays_l3 l4 hl e he k (i + 1) l (by omega)
    rw [show ((i + 1 : Nat) : Int) = (i : Int) + 1 from by omega] at this
    simp [he, this]
theorem stays_l1 (l4 : List Item) (hl : l4.length ≤ 20000) (l2 : List Int) (h2 : l2.length ≤ 20000) : ∀ (k i : Nat) (l : List Int) (e : Int), 1 ≤ k → Bs l → (e = 0 → i + l.length ≤ l2.length ∧ l2.length + 2 ≤ i + k ∧ i ≤ l2.length) → (e = 0 ∨ e = 3 ∨ e = 21) →
    m_cantonlaw02_PackStays_l1 l4 true l2 k (i : Int) l e = some true
  | 0, i, l, e, h, _, _, _ => by omega
  | k + 1, i, l, e, h, hb, h0, he => by
    have fin2 : e ≠ 0 → m_cantonlaw02_PackStays_j2 l4 e true l false = some true := fun hne => by
      unfold m_cantonlaw02_PackStays_j2
      rw [if_neg (by simp), show ((l4.length : Int) - 0 : Int).toNat + 1 = l4.length + 1 from by omega]
      exact stays_l2 l4 hl e hne l4.length 0 l (by omega)
    have fin3 : e ≠ 0 → m_cantonlaw02_PackStays_j4 l4 e true l false = some true := fun hne => by
      unfold m_cantonlaw02_PackStays_j4
      rw [if_neg (by simp), show ((l4.length : Int) - 0 : Int).toNat + 1 = l4.length + 1 from by omega]
      exact stays_l3 l4 hl e hne l4.length 0 l (by omega)
    unfold m_cantonlaw02_PackStays_l1
    simp only [p_err, Option.bind_some]
    by_cases hz : e = 0
    · subst hz
      obtain ⟨h3, h4, h5⟩ := h0 rfl
      rw [if_pos (by simp; omega), if_pos (by simp), pr_num l hb _ (by omega)]
      simp only [Option.bind_some]
      have e1 : IntKind.i64.wrap ((i : Int) + 1) = ((i + 1 : Nat) : Int) := by rw [w64 (by omega) (by omega)]; rfl
      rw [e1]
      rcases rd_all ((i : Int).tmod 300) hb with ⟨e', h6, h7⟩ | ⟨v, cs, h6, h7, _, _⟩
      · rw [h7]
        exact stays_l1 l4 hl l2 h2 k (i + 1) [] e' (by omega) Bs.nil (fun h => by omega) (by omega)
      · rw [h6]
        have hp := enc_pos v
        have hll := congrArg List.length h7
        rw [List.length_append] at hll
        exact stays_l1 l4 hl l2 h2 k (i + 1) cs 0 (by omega) (h7 ▸ hb : Bs (enc v ++ cs)).right (fun _ => by omega) (.inl rfl)
    · have h3 : e = 3 ∨ e = 21 := by omega
      by_cases hi : i ≤ l2.length
      · rw [if_pos (by simp; omega), if_neg (by simpa using hz)]
        rcases h3 with rfl | rfl
        · rw [if_pos (by decide)]; exact fin2 (by omega)
        · rw [if_neg (by decide)]; exact fin2 (by omega)
      · rw [if_neg (by simp; omega)]
        rcases h3 with rfl | rfl
        · rw [if_pos (by decide)]; exact fin3 (by omega)
        · rw [if_neg (by decide)]; exact fin3 (by omega)
theorem pure_stays (l : List Int) (l4 : List Item) (h : InL (fun x => InI .u8 x) l) (h4 : InL (fun x => WI x) l4) : m_cantonlaw02_PackStays l l4 = some true := by
  unfold m_cantonlaw02_PackStays
  rw [head_t]
  simp only [Option.bind_some]
  rcases great_two l4 h4 with hg | ⟨hg, hw⟩
  · rw [hg]; rfl
  · rw [hg]
    simp only [Option.bind_some, Bool.false_eq_true, if_false]
    unfold m_cantonlaw02_PackStays_j1
    by_cases hl : (l.length : Int) > 20000
    · rw [if_pos (by simpa using hl)]
    · rw [if_neg (by simpa using hl), p_new _ (by simp [LIM]; omega)]
      simp only [Option.bind_some]
      exact stays_l1 l4 (by omega) l (by omega) _ 0 l 0 (by omega) (Bs.of h) (fun _ => by omega) (.inl rfl)

def okI (x : Item) : Prop := x.What = 0 → 0 ≤ x.N ∧ x.N ≤ 281474976710656
theorem bs_encI (x : Item) : Bs (encI x) := by
  unfold encI
  split
  · split
    · exact bs_enc _
    · exact Bs.nil
  · split
    · exact bs_encT _
    · split
      · exact bs_encL _
      · exact Bs.nil
theorem flatI_len (l : List Item) (h : ∀ x ∈ l, Small x) : (l.flatMap encI).length ≤ 21 * l.length + 8 * wA l := by
  induction l with
  | nil => simp
  | cons x l ih =>
    have h1 := ih fun t ht => h t (by simp [ht])
    have h2 := encI_len (h x (by simp))
    rw [List.flatMap_cons, List.length_append, wA_cons, List.length_cons]
    omega
theorem bs_flatI (l : List Item) : Bs (l.flatMap encI) := by
  intro x hx
  obtain ⟨s, _, hs⟩ := List.mem_flatMap.1 hx
  exact bs_encI s x hs
theorem back_l2 (l2 : List Item) (hl : l2.length ≤ 20000) (hs : ∀ x ∈ l2, Small x) (ho : ∀ x ∈ l2, okI x) : ∀ (k i : Nat), i + k = l2.length → ((l2.drop i).flatMap encI).length ≤ 1000000 →
    m_cantonlaw02_PackBack_l2 l2 true (k + 1) (i : Int) ((l2.drop i).flatMap encI) 0 = some true
  | 0, i, h, hb => by
    unfold m_cantonlaw02_PackBack_l2
    rw [if_neg (by simp; omega), List.drop_eq_nil_of_le (by omega)]
    simp only [List.flatMap_nil, p_end, p_err, Option.bind_some]
    rw [pr_num [] Bs.nil _ (by simp)]
    rfl
  | k + 1, i, h, hb => by
    have hi : i < l2.length := by omega
    have hx := hs l2[i] (List.getElem_mem _)
    have ho' := ho l2[i] (List.getElem_mem _)
    have e1 : IntKind.i64.wrap ((i : Int) + 1) = ((i + 1 : Nat) : Int) := by rw [w64 (by omega) (by omega)]; rfl
    rw [List.drop_eq_getElem_cons hi, List.flatMap_cons] at hb
    have hbs : Bs (encI l2[i] ++ (l2.drop (i + 1)).flatMap encI) := (bs_encI _).app (bs_flatI _)
    have hb' := hb
    rw [List.length_append] at hb
    have ih := back_l2 l2 hl hs ho k (i + 1) (by omega) (by omega)
    have e2 : (l2.drop i).flatMap encI = encI l2[i] ++ (l2.drop (i + 1)).flatMap encI := by rw [List.drop_eq_getElem_cons hi, List.flatMap_cons]
    rw [e2]
    generalize (l2.drop (i + 1)).flatMap encI = cs at *
    unfold m_cantonlaw02_PackBack_l2
    rw [if_pos (by simp; omega), idx_lt hi]
    simp only [Option.bind_some, m_cantonlaw02_PackBack_j3, e1]
    by_cases h0 : l2[i].What = 0
    · have hn := ho' h0
      rw [if_pos (by simpa using h0), pr_num _ hbs _ hb']
      simp only [Option.bind_some]
      obtain ⟨n, hn'⟩ : ∃ n : Nat, l2[i].N = (n : Int) := ⟨l2[i].N.toNat, by omega⟩
      have he : encI l2[i] = enc n := by unfold encI; rw [if_pos h0, if_pos hn, hn', Int.toNat_natCast]
      have hr := rd_enc (n : Int) n (by omega) cs
      rw [if_pos (Int.le_refl _)] at hr
      rw [he, hn', hr, if_neg (by simp)]
      exact ih
    · rw [if_neg (by simpa using h0)]
      by_cases h1 : l2[i].What = 1
      · rw [if_pos (by simpa using h1), pr_text _ hbs hb']
        have he : encI l2[i] = encT l2[i].S := by unfold encI; rw [if_neg h0, if_pos h1]
        simp only [Option.bind_some]
        rw [he, rdT_enc _ (by have := hx.s; omega), if_neg (by simp [sEq_self])]
        exact ih
      · rw [if_neg (by simpa using h1)]
        by_cases h2 : l2[i].What = 2
        · rw [if_pos (by simpa using h2), pr_texts _ hbs hb']
          have he : encI l2[i] = encL l2[i].L := by unfold encI; rw [if_neg h0, if_neg h1, if_pos h2]
          simp only [Option.bind_some]
          rw [he, rdL_enc _ (by have := hx.l; omega) (fun s hs => by have := hx.t s hs; omega)]
          dsimp only
          rw [same_self _ (by have := hx.l; omega)]
          simp only [Option.bind_some]
          rw [if_neg (by simp)]
          exact ih
        · rw [if_neg (by simpa using h2)]
          have he : encI l2[i] = [] := by unfold encI; rw [if_neg h0, if_neg h1, if_neg h2]
          rw [he, List.nil_append]
          exact ih
theorem back_l1 (l2 : List Item) (hl : l2.length ≤ 20000) (hs : ∀ x ∈ l2, Small x) (hw : 21 * l2.length + 8 * wA l2 ≤ 1000000) : ∀ (k i : Nat) (l : List Int), i + k = l2.length → (∀ x ∈ l2.take i, okI x) → l = (l2.take i).flatMap encI → l.length + 21 * (l2.length - i) + 8 * wA (l2.drop i) ≤ 1000000 →
    m_cantonlaw02_PackBack_l1 true l2 (k + 1) (i : Int) l false = some true
  | 0, i, l, h, ho, hlq, hb => by
    unfold m_cantonlaw02_PackBack_l1
    rw [if_neg (by simp; omega), pw_bytes _ _ (by simp [LIM]; omega)]
    simp only [Option.bind_some, Bool.false_eq_true, if_false]
    rw [p_new _ (by simp [LIM]; omega)]
    simp only [Option.bind_some]
    rw [List.take_of_length_le (by omega)] at ho hlq
    rw [if_neg (by simp), show ((l2.length : Int) - 0 : Int).toNat + 1 = l2.length + 1 from by omega]
    have := back_l2 l2 hl hs ho l2.length 0 (by omega) (by rw [List.drop_zero, ← hlq]; omega)
    rw [List.drop_zero, ← hlq] at this
    exact this
  | k + 1, i, l, h, ho, hlq, hb => by
    have hi : i < l2.length := by omega
    have hx := hs l2[i] (List.getElem_mem _)
    have e1 : IntKind.i64.wrap ((i : Int) + 1) = ((i + 1 : Nat) : Int) := by rw [w64 (by omega) (by omega)]; rfl
    have hlen := encI_len hx
    have hP := stepP hx l false (by omega)
    rw [List.drop_eq_getElem_cons hi, wA_cons] at hb
    have ih : okI l2[i] → m_cantonlaw02_PackBack_l1 true l2 (k + 1) ((i + 1 : Nat) : Int) (l ++ encI l2[i]) false = some true := fun hok =>
      back_l1 l2 hl hs hw k (i + 1) (l ++ encI l2[i]) (by omega)
        (by
          intro x hx
          rw [List.take_add_one, List.getElem?_eq_getElem hi] at hx
          rcases List.mem_append.1 hx with hx | hx
          · exact ho x hx
          · simp at hx; rw [hx]; exact hok)
        (by rw [List.take_add_one, List.getElem?_eq_getElem hi, List.flatMap_append, ← hlq]; simp)
        (by rw [List.length_append]; omega)
    unfold stepW at hP
    unfold m_cantonlaw02_PackBack_l1
    rw [if_pos (by simp; omega), idx_lt hi]
    simp only [Option.bind_some, m_cantonlaw02_PackBack_j1, e1]
    by_cases h0 : l2[i].What = 0
    · rw [if_pos h0] at hP
      rw [if_pos (by simpa using h0)]
      unfold m_cantonlaw02_PackBack_j2
      by_cases hn : l2[i].N < 0
      · rw [if_pos (by simpa using hn)]; rfl
      · rw [if_neg (by simpa using hn)]
        by_cases hm : l2[i].N > 281474976710656
        · rw [if_pos (by simpa using hm)]
        · rw [if_neg (by simpa using hm), idx_lt hi]
          simp only [Option.bind_some, m_cantonlaw02_PackBack_j1, e1]
          rw [hP]
          have hbad : badI l2[i] = false := by unfold badI; simp [h0]; omega
          rw [hbad]
          exact ih (fun _ => by omega)
    · rw [if_neg h0] at hP
      rw [if_neg (by simpa using h0)]
      have hbad : badI l2[i] = false := by unfold badI; simp [h0]
      rw [hbad] at hP
      have ih := ih (fun h => absurd h h0)
      by_cases h1 : l2[i].What = 1
      · rw [if_pos h1] at hP
        rw [if_pos (by simpa using h1), hP]
        exact ih
      · rw [if_neg h1] at hP
        rw [if_neg (by simpa using h1)]
        by_cases h2 : l2[i].What = 2
        · rw [if_pos h2] at hP
          rw [if_pos (by simpa using h2), hP]
          exact ih
        · rw [if_neg h2] at hP
          rw [if_neg (by simpa using h2)]
          have := Option.some.inj hP
          rw [Prod.mk.injEq] at this
          rw [← this.1] at ih
          exact ih
theorem pure_back (l : List Item) (h : InL (fun x => WI x) l) : m_cantonlaw02_PackBack l = some true := by
  unfold m_cantonlaw02_PackBack
  rw [head_t]
  simp only [Option.bind_some]
  rcases great_two l h with hg | ⟨hg, hw⟩
  · rw [hg]; rfl
  · rw [hg]
    simp only [Option.bind_some, Bool.false_eq_true, if_false]
    rw [show ((l.length : Int) - 0 : Int).toNat + 1 = l.length + 1 from by omega]
    exact back_l1 l (by omega) (small_of hw) (by omega) l.length 0 [] (by omega) (by simp) (by simp) (by simp; omega)
end Go.Cb
