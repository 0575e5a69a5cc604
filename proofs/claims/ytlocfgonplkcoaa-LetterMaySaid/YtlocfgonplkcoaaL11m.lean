/- Answers, plainly: is one too much?; the laws LetterAnswers, LetterWhole. -/
import Derived.Test.YtlocfgonplkcoaaL10m
set_option linter.unusedVariables false
set_option linter.unusedSimpArgs false
namespace Go.Cb
open Go.RowKit
/-- a loop that sums up, to a bound t. -/
theorem great_gen {α : Type} (t N0 : Nat) (ht : t ≤ 100000) (L : List α) (hL : L.length ≤ 1000000000000000) (d : α → Nat) (hd : ∀ x, d x ≤ 100000) (Px : α → Prop) (F : Nat → Int → Int → Option Bool) (K : Int → Option Bool) (R : Prop)
    (hF : ∀ k (n i : Nat) (hi : i < L.length), n ≤ 4000000000000000 → n < t → F (k + 1) (n : Int) (i : Int) = some true ∨ (F (k + 1) (n : Int) (i : Int) = F k ((n + d L[i] : Nat) : Int) ((i + 1 : Nat) : Int) ∧ Px L[i]))
    (hG : ∀ k (n i : Nat) (hi : i < L.length), ¬ n < t → F (k + 1) (n : Int) (i : Int) = K (n : Int))
    (h0 : ∀ k (n : Nat), F (k + 1) (n : Int) (L.length : Int) = K (n : Int))
    (hK : ∀ n : Nat, N0 ≤ n → n ≤ 4000000000000000 → ∃ b, K (n : Int) = some b ∧ (b = false → n < t ∧ R)) :
    ∀ (f n i : Nat), N0 ≤ n → n ≤ 4000000000000000 → i ≤ L.length → (n < t → L.length - i + 1 ≤ f) → 1 ≤ f → ∃ b, F f (n : Int) (i : Int) = some b ∧ (b = false → n < t ∧ R ∧ ∀ x ∈ L.drop i, Px x ∧ d x < t)
  | 0, n, i, _, _, _, _, h => by omega
  | f + 1, n, i, hN, hn, hi, hf, _ => by
    by_cases hil : i < L.length
    · by_cases hnt : n < t
      · rcases hF f n i hil hn hnt with h1 | ⟨h1, h2⟩
        · exact ⟨true, h1, by simp⟩
        · have h3 := hd L[i]
          have h4 := hf hnt
          obtain ⟨b, h5, h6⟩ := great_gen t N0 ht L hL d hd Px F K R hF hG h0 hK f (n + d L[i]) (i + 1) (by omega) (by omega) (by omega) (fun h => by omega) (by omega)
          rw [h1]
          refine ⟨b, h5, fun hb => ?_⟩
          obtain ⟨h7, h8, h9⟩ := h6 hb
          refine ⟨by omega, h8, fun x hx => ?_⟩
          rw [List.drop_eq_getElem_cons hil] at hx
          rcases List.mem_cons.1 hx with rfl | hx
          · exact ⟨h2, by omega⟩
          · exact h9 x hx
      · rw [hG f n i hil hnt]
        obtain ⟨b, h1, h2⟩ := hK n hN hn
        exact ⟨b, h1, fun hb => absurd (h2 hb).1 hnt⟩
    · have : i = L.length := by omega
      subst this
      rw [h0]
      obtain ⟨b, h1, h2⟩ := hK n hN hn
      exact ⟨b, h1, fun hb => ⟨(h2 hb).1, (h2 hb).2, by simp⟩⟩
theorem wrap1 (i : Nat) (h : i ≤ 4000000000000000) : IntKind.i64.wrap ((i : Int) + 1) = ((i + 1 : Nat) : Int) := by rw [w64 (by omega) (by omega)]; rfl
theorem wrapm (n s c : Nat) (h : n ≤ 8000000000000000) (hc : c ≤ 100000) : IntKind.i64.wrap ((n : Int) + (min (s : Int) (c : Int))) = ((n + min s c : Nat) : Int) := by
  have : (min (s : Int) (c : Int)) = ((min s c : Nat) : Int) := by omega
  rw [this, w64 (by omega) (by omega)]; rfl
theorem great06 (L : List S_api_Node) (hL : L.length ≤ 140737488351232) : ∃ b, m_cantonlaw06_Great L = some b ∧ (b = false → L.length ≤ 20000 ∧ ∀ x ∈ L, FN x) := by
  unfold m_cantonlaw06_Great
  have e0 : IntKind.i64.wrap (3 * (L.length : Int)) = ((3 * L.length : Nat) : Int) := by rw [w64 (by omega) (by omega)]; omega
  rw [e0]
  obtain ⟨b, h1, h2⟩ := great_gen 5000 (3 * L.length) (by omega) L (by omega) (fun x => min x.Path.size 5000 + min x.Data.size 5000) (fun x => by omega) (fun _ => True) (m_cantonlaw06_Great_l1 L) m_cantonlaw06_Great_j1 True
    (fun k n i hi hn ht => by
      refine .inr ⟨?_, trivial⟩
      rw [m_cantonlaw06_Great_l1, if_pos (by simpa using hi), if_pos (by rw [decide_eq_true_eq]; omega), idx_lt hi]
      simp only [Option.bind_some]
      have w1 := wrapm n L[i].Path.size 5000 (by omega) (by omega)
      have w2 := wrapm (n + min L[i].Path.size 5000) L[i].Data.size 5000 (by omega) (by omega)
      rw [show ((5000 : Nat) : Int) = 5000 from rfl] at w1 w2
      rw [w1, w2, wrap1 i (by omega), Nat.add_assoc])
    (fun k n i hi hn => by rw [m_cantonlaw06_Great_l1, if_pos (by simpa using hi), if_neg (by rw [decide_eq_true_eq]; omega)])
    (fun k n => by rw [m_cantonlaw06_Great_l1, if_neg (by simp)])
    (fun n _ _ => ⟨_, rfl, fun h => by simp at h; exact ⟨by omega, trivial⟩⟩) 5002 (3 * L.length) 0 (Nat.le_refl _) (by omega) (by omega) (fun h => by omega) (by omega)
  refine ⟨b, h1, fun hb => ?_⟩
  obtain ⟨h3, _, h4⟩ := h2 hb
  rw [List.drop_zero] at h4
  exact ⟨by omega, fun x hx => by have := (h4 x hx).2; exact ⟨by omega, by omega⟩⟩
theorem great07 (x : S_api_Store) (hn : x.Nodes.length ≤ 140737488351232) (ht : x.Turns.length ≤ 140737488351232) : ∃ b, m_cantonlaw07_Great x = some b ∧ (b = false → (x.Nodes.length ≤ 20000 ∧ ∀ y ∈ x.Nodes, FN y) ∧ x.Turns.length ≤ 20000 ∧ ∀ y ∈ x.Turns, y.Dir.size ≤ 20000) := by
  unfold m_cantonlaw07_Great
  obtain ⟨b, h1, h2⟩ := great_gen 3000 x.Turns.length (by omega) x.Turns (by omega) (fun x => min x.Dir.size 3000) (fun x => by omega) (fun _ => True) (m_cantonlaw07_Great_l1 x) (m_cantonlaw07_Great_j1 x) (x.Nodes.length ≤ 20000 ∧ ∀ y ∈ x.Nodes, FN y)
    (fun k n i hi hn ht => by
      refine .inr ⟨?_, trivial⟩
      rw [m_cantonlaw07_Great_l1, if_pos (by simpa using hi), if_pos (by rw [decide_eq_true_eq]; omega), idx_lt hi]
      simp only [Option.bind_some]
      have w1 := wrapm n x.Turns[i].Dir.size 3000 (by omega) (by omega)
      rw [show ((3000 : Nat) : Int) = 3000 from rfl] at w1
      rw [w1, wrap1 i (by omega)])
    (fun k n i hi hn => by rw [m_cantonlaw07_Great_l1, if_pos (by simpa using hi), if_neg (by rw [decide_eq_true_eq]; omega)])
    (fun k n => by rw [m_cantonlaw07_Great_l1, if_neg (by simp)])
    (fun n _ _ => by
      unfold m_cantonlaw07_Great_j1
      by_cases h : (n : Int) ≥ 3000
      · rw [if_pos (by simpa using h)]; exact ⟨true, rfl, by simp⟩
      · rw [if_neg (by simpa using h)]
        obtain ⟨b, h1, h2⟩ := great06 x.Nodes hn
        rw [h1]
        exact ⟨b, rfl, fun hb => ⟨by omega, h2 hb⟩⟩) 3002 x.Turns.length 0 (Nat.le_refl _) (by omega) (by omega) (fun h => by omega) (by omega)
  refine ⟨b, h1, fun hb => ?_⟩
  obtain ⟨h3, h5, h4⟩ := h2 hb
  rw [List.drop_zero] at h4
  exact ⟨h5, by omega, fun x hx => by have := (h4 x hx).2; omega⟩
structure InA (a : Answer) : Prop where
  r : a.Results.length ≤ 140737488351232
  rx : ∀ x ∈ a.Results, x.Names.length ≤ 140737488351232
  n : a.Store.Nodes.length ≤ 140737488351232
  t : a.Store.Turns.length ≤ 140737488351232
  e : a.Events.length ≤ 140737488351232
  m : a.Mounts.length ≤ 140737488351232
  w : a.Wounded.length ≤ 140737488351232
theorem greatA (x : Answer) (h : InA x) : ∃ b, m_cantonlaw17_GreatAnswer x = some b ∧ (b = false → Fit x) := by
  have hr := h.r; have he := h.e; have hm := h.m; have hw := h.w
  unfold m_cantonlaw17_GreatAnswer
  have e0 : IntKind.i64.wrap ((IntKind.i64.wrap ((IntKind.i64.wrap ((x.Results.length : Int) + (x.Events.length : Int))) + (x.Mounts.length : Int))) + (x.Wounded.length : Int)) = ((x.Results.length + x.Events.length + x.Mounts.length + x.Wounded.length : Nat) : Int) := by
    rw [w64 (n := (x.Results.length : Int) + (x.Events.length : Int)) (by omega) (by omega), w64 (n := (x.Results.length : Int) + (x.Events.length : Int) + (x.Mounts.length : Int)) (by omega) (by omega), w64 (by omega) (by omega)]; omega
  rw [e0]
  generalize hN0 : x.Results.length + x.Events.length + x.Mounts.length + x.Wounded.length = N0
  let RS : Prop := (x.Store.Nodes.length ≤ 20000 ∧ ∀ y ∈ x.Store.Nodes, FN y) ∧ x.Store.Turns.length ≤ 20000 ∧ ∀ y ∈ x.Store.Turns, y.Dir.size ≤ 20000
  let RM : Prop := RS ∧ ∀ y ∈ x.Mounts, y.Prefix.size ≤ 20000
  let RE : Prop := RM ∧ ∀ y ∈ x.Events, y.Path.size ≤ 20000
  have k3 : ∀ n : Nat, N0 ≤ n → n ≤ 4000000000000000 → ∃ b, m_cantonlaw17_GreatAnswer_j3 x (n : Int) = some b ∧ (b = false → n < 9000 ∧ RS) := fun n _ _ => by
    unfold m_cantonlaw17_GreatAnswer_j3
    by_cases hh : (n : Int) ≥ 9000
    · rw [if_pos (by simpa using hh)]; exact ⟨true, rfl, by simp⟩
    · rw [if_neg (by simpa using hh)]
      obtain ⟨b, h1, h2⟩ := great07 x.Store h.n h.t
      show ∃ b, (m_cantonlaw07_Great x.Store).bind _ = some b ∧ _
      rw [h1]
      exact ⟨b, rfl, fun hb => ⟨by omega, h2 hb⟩⟩
  have k2 : ∀ n : Nat, N0 ≤ n → n ≤ 4000000000000000 → ∃ b, m_cantonlaw17_GreatAnswer_j2 x (n : Int) = some b ∧ (b = false → n < 9000 ∧ RM) := fun n hn0 hn1 => by
    unfold m_cantonlaw17_GreatAnswer_j2
    obtain ⟨b, h1, h2⟩ := great_gen 9000 N0 (by omega) x.Mounts (by omega) (fun x => min x.Prefix.size 9000) (fun x => by omega) (fun _ => True) (m_cantonlaw17_GreatAnswer_l1 x) (m_cantonlaw17_GreatAnswer_j3 x) RS
      (fun k n i hi hn ht => by
        refine .inr ⟨?_, trivial⟩
        rw [m_cantonlaw17_GreatAnswer_l1, if_pos (by simpa using hi), if_pos (by rw [decide_eq_true_eq]; omega), idx_lt hi]
        simp only [Option.bind_some]
        have w1 := wrapm n x.Mounts[i].Prefix.size 9000 (by omega) (by omega)
        rw [show ((9000 : Nat) : Int) = 9000 from rfl] at w1
        rw [w1, wrap1 i (by omega)])
      (fun k n i hi hn => by rw [m_cantonlaw17_GreatAnswer_l1, if_pos (by simpa using hi), if_neg (by rw [decide_eq_true_eq]; omega)])
      (fun k n => by rw [m_cantonlaw17_GreatAnswer_l1, if_neg (by simp)]) k3 9002 n 0 hn0 hn1 (by omega) (fun h => by omega) (by omega)
    refine ⟨b, h1, fun hb => ?_⟩
    obtain ⟨h3, h5, h4⟩ := h2 hb
    rw [List.drop_zero] at h4
    exact ⟨h3, h5, fun y hy => by have := (h4 y hy).2; omega⟩
  have k1 : ∀ n : Nat, N0 ≤ n → n ≤ 4000000000000000 → ∃ b, m_cantonlaw17_GreatAnswer_j1 x (n : Int) = some b ∧ (b = false → n < 9000 ∧ RE) := fun n hn0 hn1 => by
    unfold m_cantonlaw17_GreatAnswer_j1
    obtain ⟨b, h1, h2⟩ := great_gen 9000 N0 (by omega) x.Events (by omega) (fun x => min x.Path.size 9000) (fun x => by omega) (fun _ => True) (m_cantonlaw17_GreatAnswer_l2 x) (m_cantonlaw17_GreatAnswer_j2 x) RM
      (fun k n i hi hn ht => by
        refine .inr ⟨?_, trivial⟩
        rw [m_cantonlaw17_GreatAnswer_l2, if_pos (by simpa using hi), if_pos (by rw [decide_eq_true_eq]; omega), idx_lt hi]
        simp only [Option.bind_some]
        have w1 := wrapm n x.Events[i].Path.size 9000 (by omega) (by omega)
        rw [show ((9000 : Nat) : Int) = 9000 from rfl] at w1
        rw [w1, wrap1 i (by omega)])
      (fun k n i hi hn => by rw [m_cantonlaw17_GreatAnswer_l2, if_pos (by simpa using hi), if_neg (by rw [decide_eq_true_eq]; omega)])
      (fun k n => by rw [m_cantonlaw17_GreatAnswer_l2, if_neg (by simp)]) k2 9002 n 0 hn0 hn1 (by omega) (fun h => by omega) (by omega)
    refine ⟨b, h1, fun hb => ?_⟩
    obtain ⟨h3, h5, h4⟩ := h2 hb
    rw [List.drop_zero] at h4
    exact ⟨h3, h5, fun y hy => by have := (h4 y hy).2; omega⟩
  obtain ⟨b, h1, h2⟩ := great_gen 9000 N0 (by omega) x.Results (by omega) (fun x => min x.Path.size 9000 + min x.Data.size 9000) (fun x => by omega) (fun y => y ∈ x.Results → Log y.Names ∧ wL y.Names ≤ 250000) (m_cantonlaw17_GreatAnswer_l3 x) (m_cantonlaw17_GreatAnswer_j1 x) RE
    (fun k n i hi hn ht => by
      rw [m_cantonlaw17_GreatAnswer_l3, if_pos (by simpa using hi), if_pos (by rw [decide_eq_true_eq]; omega), idx_lt hi]
      simp only [Option.bind_some]
      rcases greatlog_two x.Results[i].Names (h.rx _ (List.getElem_mem hi)) with hg | ⟨hg, g1, g2, _⟩
      · rw [hg]; exact .inl rfl
      · rw [hg]
        simp only [Option.bind_some, Bool.false_eq_true, if_false]
        refine .inr ⟨?_, fun _ => ⟨g1, g2⟩⟩
        have w1 := wrapm n x.Results[i].Path.size 9000 (by omega) (by omega)
        have w2 := wrapm (n + min x.Results[i].Path.size 9000) x.Results[i].Data.size 9000 (by omega) (by omega)
        rw [show ((9000 : Nat) : Int) = 9000 from rfl] at w1 w2
        rw [w1, w2, wrap1 i (by omega), Nat.add_assoc])
    (fun k n i hi hn => by rw [m_cantonlaw17_GreatAnswer_l3, if_pos (by simpa using hi), if_neg (by rw [decide_eq_true_eq]; omega)])
    (fun k n => by rw [m_cantonlaw17_GreatAnswer_l3, if_neg (by simp)]) k1 9002 N0 0 (Nat.le_refl _) (by omega) (by omega) (fun h => by omega) (by omega)
  refine ⟨b, h1, fun hb => ?_⟩
  obtain ⟨h3, ⟨⟨⟨⟨h5, h6⟩, h7, h8⟩, h9⟩, h10⟩, h4⟩ := h2 hb
  rw [List.drop_zero] at h4
  exact ⟨by omega, fun y hy => by obtain ⟨q1, q2⟩ := h4 y hy; exact ⟨by omega, by omega, (q1 hy).1, (q1 hy).2⟩, h5, h6, h7, h8, by omega, h10, by omega, h9, by omega⟩
end Go.Cb
