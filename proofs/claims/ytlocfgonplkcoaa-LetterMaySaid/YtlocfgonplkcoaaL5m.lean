/- Letters: the laws on letters and saved things. -/
import Derived.Test.YtlocfgonplkcoaaL4m
set_option linter.unusedVariables false
set_option linter.unusedSimpArgs false
namespace Go.Cb
open Go.RowKit
/-! ### is it too much? -/
def m3 (s : ByteArray) : Nat := min s.size 30000
def wM (L : List ByteArray) : Nat := (L.map m3).sum
theorem wM_cons (s : ByteArray) (L : List ByteArray) : wM (s :: L) = m3 s + wM L := by simp [wM]
theorem m3_mem {L : List ByteArray} {s : ByteArray} (h : s ∈ L) : m3 s ≤ wM L := by
  induction L with
  | nil => simp at h
  | cons a L ih =>
    rw [wM_cons]
    rcases List.mem_cons.1 h with rfl | h
    · omega
    · have := ih h; omega
theorem wL_le {L : List ByteArray} (h : ∀ s ∈ L, s.size < 30000) : wL L ≤ wM L + 7 * L.length := by
  induction L with
  | nil => simp [wL]
  | cons s L ih =>
    have h1 := ih fun t ht => h t (by simp [ht])
    have h2 := h s (by simp)
    rw [wM_cons]
    simp only [wL, List.map_cons, List.sum_cons, List.length_cons] at h1 ⊢
    have h5 : wT s = s.size + 7 := rfl
    have h6 : m3 s = min s.size 30000 := rfl
    omega
theorem greatlog_l1 (L : List ByteArray) (hl : L.length < 1000000000000000) : ∀ (f n i : Nat), n ≤ 1000000000000000 → i ≤ L.length → (n < 30000 → L.length ≤ n ∧ L.length - i + 1 ≤ f) → 1 ≤ f →
    ∃ b, m_cantonlaw17_GreatLog_l1 L f (n : Int) (i : Int) = some b ∧ (b = false → n + wM (L.drop i) < 30000)
  | 0, n, i, _, _, _, h => by omega
  | f + 1, n, i, h1, h2, h3, _ => by
    unfold m_cantonlaw17_GreatLog_l1 m_cantonlaw17_GreatLog_j1
    by_cases hi : i < L.length
    · rw [if_pos (by simpa using hi)]
      by_cases hn : n < 30000
      · rw [if_pos (by simp; omega), idx_lt hi]
        simp only [Option.bind_some]
        have h20 : m3 L[i] ≤ 30000 := by unfold m3; omega
        have e3 : IntKind.i64.wrap ((n : Int) + (min (L[i].size : Int) 30000)) = ((n + m3 L[i] : Nat) : Int) := by
          have : (min (L[i].size : Int) 30000) = ((m3 L[i] : Nat) : Int) := by unfold m3; omega
          rw [this, w64 (by omega) (by omega)]; rfl
        rw [e3, show IntKind.i64.wrap ((i : Int) + 1) = ((i + 1 : Nat) : Int) from by rw [w64 (by omega) (by omega)]; rfl]
        have h7 := h3 hn
        obtain ⟨b, h8, h9⟩ := greatlog_l1 L hl f (n + m3 L[i]) (i + 1) (by omega) (by omega) (fun h => by omega) (by omega)
        refine ⟨b, h8, fun hb => ?_⟩
        have h10 := h9 hb
        rw [List.drop_eq_getElem_cons hi, wM_cons]
        omega
      · rw [if_neg (by simp; omega)]
        refine ⟨_, rfl, fun h => ?_⟩
        simp at h
        omega
    · rw [if_neg (by simpa using hi)]
      refine ⟨_, rfl, fun h => ?_⟩
      rw [List.drop_eq_nil_of_le (by omega)]
      simp [wM] at h ⊢
      omega
theorem greatlog (L : List ByteArray) (hl : L.length ≤ 140737488351232) : ∃ b, m_cantonlaw17_GreatLog L = some b ∧ (b = false → L.length + wM L < 30000) := by
  obtain ⟨b, h1, h2⟩ := greatlog_l1 L (by omega) 30002 L.length 0 (by omega) (by omega) (fun h => ⟨by omega, by omega⟩) (by omega)
  rw [List.drop_zero] at h2
  exact ⟨b, h1, h2⟩
theorem log_of {L : List ByteArray} (h : L.length + wM L < 30000) : Log L := by
  have hs : ∀ s ∈ L, s.size < 30000 := fun s hs => by
    have := m3_mem hs
    have : m3 s < 30000 := by omega
    unfold m3 at this
    omega
  have := wL_le hs
  exact ⟨by omega, fun s h => by have := hs s h; omega, by omega⟩
theorem greatlog_two (L : List ByteArray) (hl : L.length ≤ 140737488351232) : m_cantonlaw17_GreatLog L = some true ∨ (m_cantonlaw17_GreatLog L = some false ∧ Log L ∧ wL L ≤ 250000 ∧ L.length < 30000) := by
  obtain ⟨b, h1, h2⟩ := greatlog L hl
  cases b
  · have h3 := h2 rfl
    refine .inr ⟨h1, log_of h3, ?_, by omega⟩
    have hs : ∀ s ∈ L, s.size < 30000 := fun s hs => by
      have := m3_mem hs
      have : m3 s < 30000 := by omega
      unfold m3 at this
      omega
    have := wL_le hs
    omega
  · exact .inl h1
end Go.Cb
