/- Letters: the laws on letters and saved things. -/
import Derived.Test.YtlocfgonplkcoaaL4c
set_option linter.unusedVariables false
set_option linter.unusedSimpArgs false
namespace Go.Cb
open Go.RowKit
theorem same_l1 (a c : List ByteArray) (hl : a.length = c.length) (hn : a.length ≤ 1000000000000) : ∀ (k i f : Nat), i + k = a.length → k + 1 ≤ f → ∃ r, m_cantonref01_Same_l1 a c f (i : Int) = some r ∧ (r = true ↔ a.drop i = c.drop i)
  | k, i, 0, h, h' => by omega
  | 0, i, f + 1, h, h' => by
    unfold m_cantonref01_Same_l1
    refine ⟨true, by rw [if_neg (by simp; omega)], by rw [List.drop_eq_nil_of_le (by omega), List.drop_eq_nil_of_le (by omega)]; simp⟩
  | k + 1, i, f + 1, h, h' => by
    have hi : i < a.length := by omega
    have hi' : i < c.length := by omega
    unfold m_cantonref01_Same_l1
    rw [if_pos (by simp; omega), idx_lt hi, idx_lt hi']
    simp only [Option.bind_some]
    rw [show IntKind.i64.wrap ((i : Int) + 1) = ((i + 1 : Nat) : Int) from by rw [w64 (by omega) (by omega)]; rfl]
    rw [List.drop_eq_getElem_cons hi, List.drop_eq_getElem_cons hi']
    by_cases he : a[i] = c[i]
    · rw [if_neg (by simp [(sEq_iff _ _).2 he])]
      obtain ⟨r, h1, h2⟩ := same_l1 a c hl hn k (i + 1) f (by omega) (by omega)
      exact ⟨r, h1, by rw [h2, he]; exact ⟨fun h => by rw [h], fun h => (List.cons.inj h).2⟩⟩
    · have hs : sEq a[i] c[i] = false := by
        cases h : sEq a[i] c[i]
        · rfl
        · exact absurd ((sEq_iff _ _).1 h) he
      exact ⟨false, by rw [if_pos (by simp [hs])], ⟨fun h => (Bool.noConfusion h), fun h => absurd (List.cons.inj h).1 he⟩⟩
theorem same_m (a c : List ByteArray) (ha : a.length ≤ 1000000000000) : ∃ r, m_cantonref01_Same a c = some r ∧ (r = true ↔ a = c) := by
  unfold m_cantonref01_Same
  by_cases hl : a.length = c.length
  · rw [if_neg (by simp [hl])]
    obtain ⟨r, h1, h2⟩ := same_l1 a c hl ha a.length 0 (((a.length : Int) - 0 : Int).toNat + 1) (by omega) (by omega)
    exact ⟨r, h1, by simpa using h2⟩
  · exact ⟨false, by rw [if_pos (by simp; omega)], by simp; intro h; rw [h] at hl; exact hl rfl⟩
theorem sameL_m (x y : Letter) (hx : x.Log.length ≤ 1000000000000) : ∃ r, m_cantonref17_Same x y = some r ∧ (r = true ↔ x = y) := by
  unfold m_cantonref17_Same
  obtain ⟨r, h1, h2⟩ := same_m x.Log y.Log hx
  rw [h1]
  obtain ⟨a1, a2, a3, a4, a5, a6, a7, a8⟩ := x
  obtain ⟨b1, b2, b3, b4, b5, b6, b7, b8⟩ := y
  simp only [Option.bind_some] at *
  by_cases e1 : a1 = b1
  · by_cases e2 : a2 = b2
    · by_cases e3 : a3 = b3
      · by_cases e4 : a4 = b4
        · by_cases e5 : a5 = b5
          · by_cases e6 : a6 = b6
            · have hr : r = true := h2.2 e6
              by_cases e7 : a7 = b7
              · refine ⟨sEq a8 b8, by simp [e1, e2, e3, e4, e5, hr, e7], ?_⟩
                rw [sEq_iff]
                simp [e1, e2, e3, e4, e5, e6, e7]
              · exact ⟨false, by simp [e1, e2, e3, e4, e5, hr, e7], by simp [e7]⟩
            · have hr : r = false := by
                cases r
                · rfl
                · exact absurd (h2.1 rfl) e6
              exact ⟨false, by simp [e1, e2, e3, e4, e5, hr], by simp [e6]⟩
          · exact ⟨false, by simp [e1, e2, e3, e4, e5], by simp [e5]⟩
        · exact ⟨false, by simp [e1, e2, e3, e4], by simp [e4]⟩
      · exact ⟨false, by simp [e1, e2, e3], by simp [e3]⟩
    · exact ⟨false, by simp [e1, e2], by simp [e2]⟩
  · exact ⟨false, by simp [e1], by simp [e1]⟩
theorem sameS_m (x y : Saved) (hx : x.Log.length ≤ 1000000000000) : ∃ r, m_cantonlaw17_sameSaved x y = some r ∧ (r = true ↔ x = y) := by
  unfold m_cantonlaw17_sameSaved
  obtain ⟨r, h1, h2⟩ := same_m x.Log y.Log hx
  rw [h1]
  obtain ⟨a1, a2, a6⟩ := x
  obtain ⟨b1, b2, b6⟩ := y
  simp only [Option.bind_some] at *
  by_cases e1 : a1 = b1
  · by_cases e2 : a2 = b2
    · refine ⟨r, by simp [e1, e2], ?_⟩
      rw [h2]; simp [e1, e2]
    · exact ⟨false, by simp [e1, e2], by simp [e2]⟩
  · exact ⟨false, by simp [e1], by simp [e1]⟩
theorem sameL_self (x : Letter) (hx : x.Log.length ≤ 1000000000000) : m_cantonref17_Same x x = some true := by
  obtain ⟨r, h1, h2⟩ := sameL_m x x hx
  rw [h1, h2.2 rfl]
theorem sameS_self (x : Saved) (hx : x.Log.length ≤ 1000000000000) : m_cantonlaw17_sameSaved x x = some true := by
  obtain ⟨r, h1, h2⟩ := sameS_m x x hx
  rw [h1, h2.2 rfl]

/-! ### is it too much? -/
def m3 (s : ByteArray) : Nat := min s.size 30000
def wM (L : List ByteArray) : Nat := (L.map m3).sum
theorem wM_cons (s : ByteArray) (L : List ByteArray) : wM (s :: L) = m3 s + wM L := by simp [wM]
theorem m3_mem {L : List ByteArray} {s : ByteArray} (h : s ∈ L) : m3 s ≤ wM L := by
  induction L with
  | nil => simp at h
  | cons a L ih =>
    rw [wM_cons]
    rcases List.mem_cons.1 h with rfl | h
    · omega
    · have := ih h; omega
theorem wL_le {L : List ByteArray} (h : ∀ s ∈ L, s.size < 30000) : wL L ≤ wM L + 7 * L.length := by
  induction L with
  | nil => simp [wL]
  | cons s L ih =>
    have h1 := ih fun t ht => h t (by simp [ht])
    have h2 := h s (by simp)
    rw [wM_cons]
    simp only [wL, List.map_cons, List.sum_cons, List.length_cons] at h1 ⊢
    have h5 : wT s = s.size + 7 := rfl
    have h6 : m3 s = min s.size 30000 := rfl
    omega
theorem greatlog_l1 (L : List ByteArray) (hl : L.length < 1000000000000000) : ∀ (f n i : Nat), n ≤ 1000000000000000 → i ≤ L.length → (n < 30000 → L.length ≤ n ∧ L.length - i + 1 ≤ f) → 1 ≤ f →
    ∃ b, m_cantonlaw17_GreatLog_l1 L f (n : Int) (i : Int) = some b ∧ (b = false → n + wM (L.drop i) < 30000)
  | 0, n, i, _, _, _, h => by omega
  | f + 1, n, i, h1, h2, h3, _ => by
    unfold m_cantonlaw17_GreatLog_l1 m_cantonlaw17_GreatLog_j1
    by_cases hi : i < L.length
    · rw [if_pos (by simpa using hi)]
      by_cases hn : n < 30000
      · rw [if_pos (by simp; omega), idx_lt hi]
        simp only [Option.bind_some]
        have h20 : m3 L[i] ≤ 30000 := by unfold m3; omega
        have e3 : IntKind.i64.wrap ((n : Int) + (min (L[i].size : Int) 30000)) = ((n + m3 L[i] : Nat) : Int) := by
          have : (min (L[i].size : Int) 30000) = ((m3 L[i] : Nat) : Int) := by unfold m3; omega
          rw [this, w64 (by omega) (by omega)]; rfl
        rw [e3, show IntKind.i64.wrap ((i : Int) + 1) = ((i + 1 : Nat) : Int) from by rw [w64 (by omega) (by omega)]; rfl]
        have h7 := h3 hn
        obtain ⟨b, h8, h9⟩ := greatlog_l1 L hl f (n + m3 L[i]) (i + 1) (by omega) (by omega) (fun h => by omega) (by omega)
        refine ⟨b, h8, fun hb => ?_⟩
        have h10 := h9 hb
        rw [List.drop_eq_getElem_cons hi, wM_cons]
        omega
      · rw [if_neg (by simp; omega)]
        refine ⟨_, rfl, fun h => ?_⟩
        simp at h
        omega
    · rw [if_neg (by simpa using hi)]
      refine ⟨_, rfl, fun h => ?_⟩
      rw [List.drop_eq_nil_of_le (by omega)]
      simp [wM] at h ⊢
      omega
theorem greatlog (L : List ByteArray) (hl : L.length ≤ 140737488351232) : ∃ b, m_cantonlaw17_GreatLog L = some b ∧ (b = false → L.length + wM L < 30000) := by
  obtain ⟨b, h1, h2⟩ := greatlog_l1 L (by omega) 30002 L.length 0 (by omega) (by omega) (fun h => ⟨by omega, by omega⟩) (by omega)
  rw [List.drop_zero] at h2
  exact ⟨b, h1, h2⟩
theorem log_of {L : List ByteArray} (h : L.length + wM L < 30000) : Log L := by
  have hs : ∀ s ∈ L, s.size < 30000 := fun s hs => by
    have := m3_mem hs
    have : m3 s < 30000 := by omega
    unfold m3 at this
    omega
  have := wL_le hs
  exact ⟨by omega, fun s h => by have := hs s h; omega, by omega⟩
theorem greatlog_two (L : List ByteArray) (hl : L.length ≤ 140737488351232) : m_cantonlaw17_GreatLog L = some true ∨ (m_cantonlaw17_GreatLog L = some false ∧ Log L ∧ wL L ≤ 250000 ∧ L.length < 30000) := by
  obtain ⟨b, h1, h2⟩ := greatlog L hl
  cases b
  · have h3 := h2 rfl
    refine .inr ⟨h1, log_of h3, ?_, by omega⟩
    have hs : ∀ s ∈ L, s.size < 30000 := fun s hs => by
      have := m3_mem hs
      have : m3 s < 30000 := by omega
      unfold m3 at this
      omega
    have := wL_le hs
    omega
  · exact .inl h1
theorem wLetter_len (x : Letter) (h : Log x.Log) (hw : wL x.Log ≤ 250000) (ht : x.Text.size ≤ 100000) : (cLetter.W x).length < 1000000 := by
  have e2 : cLetter.W x = encN x.Kind ++ (encN x.View ++ (encN x.Normal ++ (encN x.Len ++ (encN x.Stays ++ (encL x.Log ++ (encN x.Num ++ encT x.Text)))))) := rfl
  have h1 := encN_len x.Kind
  have h2 := encN_len x.View
  have h3 := encN_len x.Normal
  have h4 := encN_len x.Len
  have h5 := encN_len x.Stays
  have h6 := encN_len x.Num
  have hL := encL_len h
  have hT := encT_le x.Text (by omega)
  rw [e2]
  simp only [List.length_append]
  omega
theorem wSaved_len (x : Saved) (h : Log x.Log) (hw : wL x.Log ≤ 250000) : (cSaved.W x).length < 1000000 := by
  have e2 : cSaved.W x = encN x.View ++ (encN x.Normal ++ encL x.Log) := rfl
  have h2 := encN_len x.View
  have h3 := encN_len x.Normal
  have hL := encL_len h
  rw [e2]
  simp only [List.length_append]
  omega
theorem encL_ge (L : List ByteArray) : L.length ≤ (encL L).length ∧ (∀ s ∈ L, s.size ≤ (encL L).length) ∧ wL L ≤ 8 * (encL L).length := by
  have h1 := flat_pos L
  have h2 : (encL L).length = (enc L.length).length + (L.flatMap encT).length := by simp [encL]
  refine ⟨by omega, fun s hs => by have := flat_mem hs; omega, ?_⟩
  have : wL L ≤ 8 * (L.flatMap encT).length := by
    clear h1 h2
    induction L with
    | nil => simp [wL]
    | cons s L ih =>
      have h3 := encT_len s
      rw [List.flatMap_cons, List.length_append]
      simp only [wL, List.map_cons, List.sum_cons] at ih ⊢
      have h5 : wT s = s.size + 7 := rfl
      omega
  omega
/-- what is read of few bytes is not too much. -/
theorem letter_fits {x : Letter} (h : (cLetter.W x).length ≤ 20000) : Log x.Log ∧ x.Text.size ≤ 100000 := by
  have e2 : cLetter.W x = encN x.Kind ++ (encN x.View ++ (encN x.Normal ++ (encN x.Len ++ (encN x.Stays ++ (encL x.Log ++ (encN x.Num ++ encT x.Text)))))) := rfl
  rw [e2] at h
  simp only [List.length_append] at h
  have h1 := encL_ge x.Log
  have h2 := encT_len x.Text
  exact ⟨⟨by omega, fun s hs => by have := h1.2.1 s hs; omega, by omega⟩, by omega⟩
theorem saved_fits {x : Saved} (h : (cSaved.W x).length ≤ 20000) : Log x.Log := by
  have e2 : cSaved.W x = encN x.View ++ (encN x.Normal ++ encL x.Log) := rfl
  rw [e2] at h
  simp only [List.length_append] at h
  have h1 := encL_ge x.Log
  exact ⟨by omega, fun s hs => by have := h1.2.1 s hs; omega, by omega⟩
theorem getL_log {l : List Int} (hb : Bs l) (hl : l.length ≤ 20000) : (cLetter.get zLetter l).1.Log.length ≤ 1000000000000 := by
  rcases cLetter.get_two zLetter l with h | h
  · obtain ⟨h1, _⟩ := cLetter.get_ok hb h
    have := letter_fits (x := (cLetter.get zLetter l).1) (by rw [← h1]; exact hl)
    have := this.1.n
    omega
  · rw [h]; simp [zLetter]
theorem getS_log {l : List Int} (hb : Bs l) (hl : l.length ≤ 20000) : (cSaved.get zSaved l).1.Log.length ≤ 1000000000000 := by
  rcases cSaved.get_two zSaved l with h | h
  · obtain ⟨h1, _⟩ := cSaved.get_ok hb h
    have := saved_fits (x := (cSaved.get zSaved l).1) (by rw [← h1]; exact hl)
    have := this.n
    omega
  · rw [h]; simp [zSaved]

theorem put_ok {α : Type} {C : Codec α} {x : α} (h : (C.put x).2 = 0) : C.bad x = false ∧ C.put x = (C.W x, 0) := by
  unfold Codec.put at *
  cases hb : C.bad x
  · exact ⟨rfl, by simp⟩
  · rw [hb] at h; simp at h
theorem put_of {α : Type} {C : Codec α} {x : α} (h : C.bad x = false) : C.put x = (C.W x, 0) := by unfold Codec.put; rw [h]; rfl
theorem put_bs {α : Type} (C : Codec α) (x : α) : Bs (C.put x).1 := by
  unfold Codec.put
  split
  · exact Bs.nil
  · exact C.bsW x
end Go.Cb
