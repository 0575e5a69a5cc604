/- PostPlays, plainly: what post does is what the document does. -/
import Derived.Test.YtbjpjbopfhbkmaaP1
import Derived.Test.YtbjpjbopfhbkmaaFcantonlaw19PostPlays
set_option linter.unusedVariables false
set_option linter.unusedSimpArgs false
namespace Go.Cb
open Go.Proofs Go.RowKit
theorem ck9 {p : Prop} [Decidable p] (h : p) : ck p = some () := by unfold ck; rw [if_pos h]
theorem refPut (L : List S_api_Mail) (hL : L.length ≤ 400) (m : S_api_Mail) : ∃ r, post_mPut L m = some r ∧ m_cantonref19_Post_Put L m = some r ∧ r.2.length ≤ 400 := by
  unfold m_cantonref19_Post_Put post_mPut
  by_cases h : L.length = 400
  · rw [if_pos h, if_pos (by simp; omega)]
    exact ⟨_, rfl, rfl, hL⟩
  · rw [if_neg h, if_neg (by simp; omega), ck9 (by simp [LIM]; omega)]
    exact ⟨_, rfl, rfl, by simp; omega⟩
theorem refDouble (L : List S_api_Mail) (hL : L.length ≤ 400) (x : Int) : ∃ r, post_mDouble L x = some r ∧ m_cantonref19_Post_Double L x = some r ∧ r.2.length ≤ 400 := by
  have hj : ∀ b, b = true → m_cantonref19_Post_Double_j1 L x b = some (false, L) := by rintro _ rfl; rfl
  unfold m_cantonref19_Post_Double post_mDouble
  by_cases h0 : x < 0
  · have : idx L x = none := by unfold idx; rw [if_neg (by omega)]
    rw [if_pos (by simpa using h0), this]
    exact ⟨_, rfl, hj _ rfl, hL⟩
  rw [if_neg (by simpa using h0)]
  obtain ⟨k, rfl⟩ : ∃ k : Nat, x = (k : Int) := ⟨x.toNat, by omega⟩
  by_cases h1 : k < L.length
  · rw [if_neg (by simp; omega), ix9 h1]
    by_cases h4 : L.length = 400
    · refine ⟨(false, L), by simp only; rw [if_pos h4], hj _ (by simp; omega), hL⟩
    · refine ⟨(true, L ++ [L[k]]), by simp only; rw [if_neg h4], ?_, by simp; omega⟩
      unfold m_cantonref19_Post_Double_j1
      rw [if_neg (by simp; omega), ix9 h1]
      simp only [Option.bind_some]
      rw [ck9 (by simp [LIM]; omega), ck9 (by simp [LIM]; omega)]
      rfl
  · have : idx L (k : Int) = none := by unfold idx; rw [if_pos (by omega), List.getElem?_eq_none (by omega)]
    rw [if_pos (by simp; omega), this]
    exact ⟨_, rfl, hj _ rfl, hL⟩
theorem refTake (L : List S_api_Mail) (hL : L.length ≤ 400) (x : Int) : ∃ r : post_RTake, post_mTake L x = some r ∧ m_cantonref19_Post_Take L x = some (r.1.1, r.1.2, r.2) ∧ r.2.length ≤ 400 := by
  have hj : ∀ b, b = true → m_cantonref19_Post_Take_j1 L x b = some (⟨0, 0, ByteArray.mk #[]⟩, false, L) := by rintro _ rfl; rfl
  unfold m_cantonref19_Post_Take post_mTake
  by_cases h0 : x < 0
  · have : idx L x = none := by unfold idx; rw [if_neg (by omega)]
    rw [if_pos (by simpa using h0), this]
    exact ⟨_, rfl, hj _ rfl, hL⟩
  rw [if_neg (by simpa using h0)]
  obtain ⟨k, rfl⟩ : ∃ k : Nat, x = (k : Int) := ⟨x.toNat, by omega⟩
  by_cases h1 : k < L.length
  · rw [ix9 h1]
    refine ⟨((L[k], true), L.eraseIdx k), rfl, ?_, by have := List.length_eraseIdx_le L k; show (L.eraseIdx k).length ≤ 400; omega⟩
    unfold m_cantonref19_Post_Take_j1
    rw [if_neg (by simp; omega), ix9 h1]
    simp only [Option.bind_some]
    rw [w9s (by omega), ck9 (by omega)]
    simp only [Option.bind_some]
    rw [ck9 (by omega)]
    simp only [Option.bind_some]
    rw [ck9 (by simp [LIM]; omega)]
    simp only [Option.bind_some]
    rw [ck9 (by simp [LIM]; omega)]
    simp only [Option.bind_some, List.nil_append]
    rw [List.eraseIdx_eq_take_drop_succ]
    rfl
  · have : idx L (k : Int) = none := by unfold idx; rw [if_pos (by omega), List.getElem?_eq_none (by omega)]
    rw [this]
    exact ⟨_, rfl, hj _ (by simp; omega), hL⟩
theorem refDrop (L : List S_api_Mail) (hL : L.length ≤ 400) (x : Int) : ∃ r, post_mDrop L x = some r ∧ m_cantonref19_Post_Drop L x = some r ∧ r.2.length ≤ 400 := by
  let fl : S_api_Mail → Bool := fun m => m.To != x
  have key : ∀ (k i f : Nat), i + k = L.length → k + 1 ≤ f → m_cantonref19_Post_Drop_l1 x f ((L.take i).filter fl) (i : Int) L = some (((L.length - (L.filter fl).length : Nat) : Int), L.filter fl) := by
    intro k
    induction k with
    | zero =>
      intro i f h h'
      obtain ⟨f, rfl⟩ : ∃ g, f = g + 1 := ⟨f - 1, by omega⟩
      rw [m_cantonref19_Post_Drop_l1, if_neg (by simp; omega), List.take_of_length_le (by omega)]
      have := List.length_filter_le fl L
      rw [w9 (by omega) (by omega)]
      have e : (L.length : Int) - ((L.filter fl).length : Int) = ((L.length - (L.filter fl).length : Nat) : Int) := by omega
      rw [e]
    | succ k ih =>
      intro i f h h'
      obtain ⟨f, rfl⟩ : ∃ g, f = g + 1 := ⟨f - 1, by omega⟩
      have hi : i < L.length := by omega
      have hih := ih (i + 1) f (by omega) (by omega)
      rw [← List.take_append_getElem hi, List.filter_append, List.filter_cons] at hih
      rw [m_cantonref19_Post_Drop_l1, if_pos (by simp; omega), ix9 hi]
      simp only [Option.bind_some]
      have h5 := List.length_filter_le fl (L.take i)
      have h7 : (L.take i).length = i := by rw [List.length_take]; omega
      by_cases ht : (L[i].To != x) = true
      · rw [if_pos ht, ck9 (by simp [LIM]; omega)]
        simp only [Option.bind_some]
        unfold m_cantonref19_Post_Drop_j1
        rw [if_pos (show fl L[i] = true from ht)] at hih
        rw [w9s (by omega)]
        exact hih
      · rw [if_neg ht]
        unfold m_cantonref19_Post_Drop_j1
        rw [if_neg (show ¬ fl L[i] = true from ht)] at hih
        rw [w9s (by omega)]
        simpa using hih
  refine ⟨_, rfl, ?_, ?_⟩
  · unfold m_cantonref19_Post_Drop
    have := key L.length 0 (((L.length : Int) - 0 : Int).toNat + 1) (by omega) (by omega)
    simpa using this
  · have := List.length_filter_le fl L
    show (L.filter fl).length ≤ 400
    omega
theorem great19 (l : List S_cantonlaw19_Op) (h : l.length ≤ 140737488351232) : ∃ b, m_cantonlaw19_great l = some b ∧ (b = false → l.length ≤ 900) := by
  have fin : ∀ n : Int, ∃ b, m_cantonlaw19_great_j1 l n = some b ∧ (b = false → l.length ≤ 900) := fun n => by
    unfold m_cantonlaw19_great_j1
    split
    · exact ⟨_, rfl, by simp⟩
    · exact ⟨_, rfl, by simp; omega⟩
  unfold m_cantonlaw19_great
  by_cases hl : l.length < 20000
  · have key : ∀ (k i f n : Nat), i + k = l.length → k + 1 ≤ f → n ≤ 10000000 → ∃ b, m_cantonlaw19_great_l1 l f (n : Int) (i : Int) = some b ∧ (b = false → l.length ≤ 900) := by
      intro k
      induction k with
      | zero =>
        intro i f n h h' hn
        obtain ⟨f, rfl⟩ : ∃ g, f = g + 1 := ⟨f - 1, by omega⟩
        rw [m_cantonlaw19_great_l1, if_neg (by simp; omega)]
        exact fin _
      | succ k ih =>
        intro i f n h h' hn
        obtain ⟨f, rfl⟩ : ∃ g, f = g + 1 := ⟨f - 1, by omega⟩
        rw [m_cantonlaw19_great_l1, if_pos (by simp; omega)]
        split
        · rename_i hn2
          have hn2 : n < 20000 := by simp at hn2; omega
          rw [ix9 (by omega)]
          simp only [Option.bind_some]
          have e : (n : Int) + min (l[i].M.Data.size : Int) 20000 = ((n + min l[i].M.Data.size 20000 : Nat) : Int) := by omega
          rw [w9s (by omega), w9 (by omega) (by omega), e]
          exact ih (i + 1) f _ (by omega) (by omega) (by omega)
        · exact fin _
    exact key l.length 0 20002 l.length (by omega) (by omega) (by omega)
  · rw [m_cantonlaw19_great_l1]
    split
    · rw [if_neg (by simp; omega)]; exact fin _
    · exact fin _
theorem pure_plays (l : List S_cantonlaw19_Op) (h : l.length ≤ 140737488351232) : m_cantonlaw19_PostPlays l = some true := by
  unfold m_cantonlaw19_PostPlays
  rw [head19]
  simp only [Option.bind_some]
  obtain ⟨b, h1, h2⟩ := great19 l h
  rw [h1]
  simp only [Option.bind_some]
  cases b with
  | true => rfl
  | false =>
    have hl := h2 rfl
    rw [if_neg (by simp)]
    have key : ∀ (k i f : Nat) (L : List S_api_Mail), L.length ≤ 400 → i + k = l.length → k + 1 ≤ f → m_cantonlaw19_PostPlays_l1 l true f (i : Int) L L = some true := by
      intro k
      induction k with
      | zero =>
        intro i f L hL h h'
        obtain ⟨f, rfl⟩ : ∃ g, f = g + 1 := ⟨f - 1, by omega⟩
        rw [m_cantonlaw19_PostPlays_l1, if_neg (by simp; omega), if_pos rfl, same19_self L (by omega)]
        rfl
      | succ k ih =>
        intro i f L hL h h'
        obtain ⟨f, rfl⟩ : ∃ g, f = g + 1 := ⟨f - 1, by omega⟩
        have go : ∀ L' : List S_api_Mail, L'.length ≤ 400 → m_cantonlaw19_PostPlays_j1 (m_cantonlaw19_PostPlays_l1 l true f) (i : Int) L' L' = some true := fun L' hL' => by
          unfold m_cantonlaw19_PostPlays_j1
          rw [if_neg (by simp), w9s (by omega)]
          exact ih (i + 1) f L' hL' (by omega) (by omega)
        rw [m_cantonlaw19_PostPlays_l1, if_pos (by simp; omega), ix9 (by omega)]
        simp only [Option.bind_some]
        split
        · obtain ⟨r, e1, e2, e3⟩ := refTake L hL l[i].At
          rw [e1]
          simp only [Option.bind_some]
          rw [e2]
          simp only [Option.bind_some]
          rw [if_neg (by simp)]
          unfold m_cantonlaw19_PostPlays_j2
          rw [if_neg (by simp [sEq_self])]
          exact go _ e3
        split
        · obtain ⟨r, e1, e2, e3⟩ := refDouble L hL l[i].At
          rw [e1]
          simp only [Option.bind_some]
          rw [e2]
          simp only [Option.bind_some]
          rw [if_neg (by simp)]
          exact go _ e3
        split
        · obtain ⟨r, e1, e2, e3⟩ := refDrop L hL l[i].At
          rw [e1]
          simp only [Option.bind_some]
          rw [e2]
          simp only [Option.bind_some]
          rw [if_neg (by simp)]
          exact go _ e3
        · obtain ⟨r, e1, e2, e3⟩ := refPut L hL l[i].M
          rw [e1]
          simp only [Option.bind_some]
          rw [e2]
          simp only [Option.bind_some]
          rw [if_neg (by simp)]
          exact go _ e3
    have := key l.length 0 (((l.length : Int) - 0 : Int).toNat + 1) [] (by simp) (by omega) (by omega)
    simpa using this
end Go.Cb
