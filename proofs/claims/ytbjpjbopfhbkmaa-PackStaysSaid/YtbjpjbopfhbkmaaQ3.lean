/- Packing, plainly: the laws. -/
import Derived.Test.YtbjpjbopfhbkmaaQ2
import Derived.Test.YtbjpjbopfhbkmaaFcantonlaw02PackMost
import Derived.Test.YtbjpjbopfhbkmaaFcantonlaw02PackCuts
import Derived.Test.YtbjpjbopfhbkmaaFcantonlaw02PackOnce
import Derived.Test.YtbjpjbopfhbkmaaFcantonlaw02PackStays
set_option linter.unusedVariables false
set_option linter.unusedSimpArgs false
namespace Go.Cb
open Go.RowKit

theorem enc_inj {a b : Nat} (ha : a ≤ 281474976710656) (hb : b ≤ 281474976710656) (h : enc a = enc b) : a = b := by
  have h1 := rd_enc 281474976710656 a ha []
  have h2 := rd_enc 281474976710656 b hb []
  rw [if_pos (by omega)] at h1 h2
  rw [h, h2] at h1
  simp at h1
  omega
theorem hi_mono : ∀ (b a : Nat), a ≤ b → (hi a).length ≤ (hi b).length := by
  intro b
  induction b using Nat.strongRecOn with
  | _ b ih =>
    intro a h
    by_cases ha : a = 0
    · subst ha; rw [hi_zero]; simp
    · rw [hi_pos ha, hi_pos (by omega : b ≠ 0)]
      simp only [List.length_append, List.length_singleton]
      have := ih (b / 128) (by omega) (a / 128) (by omega)
      omega
theorem enc_mono {a b : Nat} (h : a ≤ b) : (enc a).length ≤ (enc b).length := by
  unfold enc
  simp only [List.length_append, List.length_singleton]
  have := hi_mono (b / 128) (a / 128) (by omega)
  omega
theorem pure_most (x1 x2 x3 : Int) : m_cantonlaw02_PackMost x1 x2 x3 = some true := by
  unfold m_cantonlaw02_PackMost
  rw [head_t]
  simp only [Option.bind_some]
  have hj : ∀ b : Bool, b = true → m_cantonlaw02_PackMost_j1 true x1 x2 x3 b = some true := by rintro _ rfl; rfl
  by_cases h1 : x1 < 0
  · rw [if_pos (by simpa using h1)]; exact hj _ rfl
  by_cases h2 : x2 < 0
  · rw [if_neg (by simpa using h1), if_pos (by simpa using h2)]; exact hj _ rfl
  by_cases h3 : x1 > 281474976710656
  · rw [if_neg (by simpa using h1), if_neg (by simpa using h2), if_pos (by simpa using h3)]; exact hj _ rfl
  rw [if_neg (by simpa using h1), if_neg (by simpa using h2), if_neg (by simpa using h3)]
  by_cases h4 : x2 > 281474976710656
  · exact hj _ (by simpa using h4)
  obtain ⟨a, rfl⟩ : ∃ a : Nat, x1 = (a : Int) := ⟨x1.toNat, by omega⟩
  obtain ⟨b, rfl⟩ : ∃ a : Nat, x2 = (a : Int) := ⟨x2.toNat, by omega⟩
  have ha : a ≤ 281474976710656 := by omega
  have hb : b ≤ 281474976710656 := by omega
  have la := enc_len a ha
  have lb := enc_len b hb
  unfold m_cantonlaw02_PackMost_j1
  rw [if_neg (by simpa using h4), pw_num [] false a ha (by simp [LIM]), pw_num [] false b hb (by simp [LIM])]
  simp only [Option.bind_some, List.nil_append]
  rw [pw_bytes _ _ (by simp [LIM]; omega), pw_bytes _ _ (by simp [LIM]; omega)]
  simp only [Option.bind_some, Bool.false_eq_true, if_false]
  rw [p_new _ (by simp [LIM]; omega)]
  simp only [Option.bind_some]
  rw [if_neg (by simp)]
  unfold m_cantonlaw02_PackMost_j2
  rw [if_neg (by simp), pr_num _ (bs_enc a) _ (by omega)]
  have hr := rd_enc x3 a ha []
  rw [List.append_nil] at hr
  rw [hr]
  have hj3 : m_cantonlaw02_PackMost_j3 true (a : Int) (b : Int) (enc a, 0) (enc b, 0) false = some true := by
    unfold m_cantonlaw02_PackMost_j3
    have e : (sEq (strOf (enc a)) (strOf (enc b)) == ((a : Int) == (b : Int))) = true := by
      by_cases hab : a = b
      · subst hab; simp [sEq_self]
      · have : ¬ sEq (strOf (enc a)) (strOf (enc b)) = true := fun h => hab (enc_inj ha hb (strOf_inj (bs_enc a) (bs_enc b) ((sEq_iff _ _).1 h)))
        have h0 : ¬ (a : Int) = b := by omega
        simp [this, hab]
        try omega
    rw [if_neg (by simp), if_pos rfl, e]
    by_cases hab : a > b
    · rw [if_pos (by simpa using hab)]
    · have := enc_mono (show a ≤ b by omega)
      rw [if_neg (by simpa using hab), if_pos (by simpa using this)]
  simp only [Option.bind_some, p_end, p_err]
  by_cases hx : (a : Int) ≤ x3
  · have hx' : ¬ (a : Int) > x3 := by omega
    simp [hx, hx', hj3]
  · have hx' : (a : Int) > x3 := by omega
    simp [hx, hx', hj3]

theorem hi_big (n : Nat) : ∀ x ∈ hi n, x > 127 := by
  induction n using Nat.strongRecOn with
  | _ n ih =>
    by_cases h : n = 0
    · subst h; rw [hi_zero]; simp
    · rw [hi_pos h]
      intro x hx
      rcases List.mem_append.1 hx with hx | hx
      · exact ih _ (by omega) x hx
      · simp at hx; omega
theorem go_cut (sh : Bool) (M : Int) : ∀ (l : List Int) (i n : Nat), (∀ x ∈ l, x > 127) → i + l.length ≤ 7 → go sh M i l n = (0, [], if sh then 21 else 3)
  | [], i, n, _, _ => by rw [go]
  | c :: cs, i, n, h, h' => by
    rw [go, if_neg (by simp at h'; omega), if_pos (h c (by simp))]
    exact go_cut sh M cs _ _ (fun x hx => h x (by simp [hx])) (by simp at h'; omega)
theorem rd_cut (M : Int) (n : Nat) (hn : n ≤ 281474976710656) (k : Nat) (hk : k < (enc n).length) (cs : List Int) : rd M ((enc n ++ cs).take k) = (0, [], 21) := by
  have hl := hi_len 6 (n / 128) (by omega)
  have he : (enc n ++ cs).take k = (hi (n / 128)).take k := by
    rw [List.take_append_of_le_length (by omega)]
    unfold enc at hk ⊢
    rw [List.take_append_of_le_length (by simp at hk; omega)]
  have hh : ((enc n ++ cs).take k).head? ≠ some 128 := by
    cases k with
    | zero => simp
    | succ k =>
      have := enc_head n cs
      cases h : enc n ++ cs with
      | nil => simp
      | cons c t => rw [h] at this; simpa using this
  unfold rd
  rw [if_neg hh, he, go_cut _ _ _ _ _ (fun x hx => hi_big _ x (List.mem_of_mem_take hx)) (by simp; omega)]
  simp
  omega
theorem rdT_cut (s : ByteArray) (hs : s.size ≤ 1000000) (k : Nat) (hk : k < (encT s).length) : rdT ((encT s).take k) = (⟨#[]⟩, [], 21) := by
  unfold rdT
  have e := bytesOf_len s
  by_cases h : k < (enc s.size).length
  · unfold encT
    rw [rd_cut _ _ (by omega) k h]
    simp
  · unfold encT at hk ⊢
    rw [List.length_append] at hk
    have hr := rd_enc 281474976710656 s.size (by omega) ((bytesOf s).take (k - (enc s.size).length))
    rw [if_pos (by omega)] at hr
    rw [List.take_append, List.take_of_length_le (by omega), hr, if_neg (by simp), if_pos (by simp; omega)]
theorem pure_cuts (x1 : Int) (s2 : ByteArray) (x3 : Int) (hs : s2.size ≤ 140737488351232) (h3 : 0 ≤ x3 ∧ x3 ≤ 255) : m_cantonlaw02_PackCuts x1 s2 x3 = some true := by
  unfold m_cantonlaw02_PackCuts
  rw [head_t]
  simp only [Option.bind_some]
  by_cases hz : (s2.size : Int) > 20000
  · rw [if_pos (by simpa using hz)]
  rw [if_neg (by simpa using hz)]
  have hs2 : s2.size ≤ 20000 := by omega
  obtain ⟨c, rfl⟩ : ∃ c : Nat, x3 = (c : Int) := ⟨x3.toNat, by omega⟩
  have hl := enc_len s2.size (by omega)
  have hbl := bytesOf_len s2
  have htm : ∀ n : Nat, 0 < n → (IntKind.i64.wrap (c : Int)).tmod (n : Int) = ((c % n : Nat) : Int) := fun n hn => by
    rw [w64 (by omega) (by omega), Int.tmod_eq_emod_of_nonneg (by omega)]; rfl
  have hj2 : m_cantonlaw02_PackCuts_j2 (c : Int) true s2 = some true := by
    unfold m_cantonlaw02_PackCuts_j2
    have hlen : (encT s2).length ≤ 20007 := by simp [encT]; omega
    rw [pw_text [] false s2 (by omega) (by simp [LIM]; omega)]
    simp only [Option.bind_some, List.nil_append]
    rw [pw_bytes _ _ (by simp [LIM]; omega)]
    simp only [Option.bind_some, Bool.false_eq_true, if_false]
    have hpos : 0 < (encT s2).length := by have := enc_pos s2.size; simp [encT]; omega
    rw [if_neg (by simp)]
    unfold m_cantonlaw02_PackCuts_j3
    have hlt := Nat.mod_lt c hpos
    dsimp only
    rw [if_neg (by simp; omega), ck_b (by omega)]
    rw [htm _ hpos, ck_b ⟨by omega, by omega⟩]
    rw [p_new _ (by simp [LIM]; omega)]
    simp only [Option.bind_some, Int.toNat_natCast]
    rw [pr_text _ ((bs_encT s2).take _) (by simp; omega), rdT_cut s2 (by omega) _ hlt]
    simp [sEq_self, p_err]
  have hj1 : ∀ (u : List Int × Int) (b : Bool), b = false → u = ([], 1) → m_cantonlaw02_PackCuts_j1 (c : Int) true s2 u b = some true := by
    rintro u b rfl rfl
    unfold m_cantonlaw02_PackCuts_j1
    rw [if_neg (by simp), if_neg (by simp)]
    exact hj2
  by_cases hx : x1 < 0 ∨ x1 > 281474976710656
  · rw [pw_bad _ _ _ hx]
    simp only [Option.bind_some]
    rw [pw_bytes _ _ (by simp [LIM])]
    simp only [Option.bind_some, if_true]
    rcases hx with hx | hx
    · rw [if_neg (by simpa using hx)]
      exact hj1 _ _ (by simp) rfl
    · rw [if_pos (by simp; omega)]
      exact hj1 _ _ (by simp; omega) rfl
  · obtain ⟨n, rfl⟩ : ∃ n : Nat, x1 = (n : Int) := ⟨x1.toNat, by omega⟩
    have hn : n ≤ 281474976710656 := by omega
    have hln := enc_len n hn
    have hpos := enc_pos n
    rw [pw_num _ _ n hn (by simp [LIM])]
    simp only [Option.bind_some, List.nil_append]
    rw [pw_bytes _ _ (by simp [LIM]; omega)]
    simp only [Option.bind_some, Bool.false_eq_true, if_false]
    rw [if_pos (by simp)]
    unfold m_cantonlaw02_PackCuts_j1 m_cantonlaw02_PackCuts_j4
    have hlt := Nat.mod_lt c hpos
    have hcut := rd_cut 281474976710656 n hn _ hlt []
    rw [List.append_nil] at hcut
    dsimp only
    rw [if_neg (by simp; omega), if_pos (by simp), if_neg (by simp; omega), if_neg (by simp; omega), ck_b (by omega)]
    rw [htm _ hpos, ck_b ⟨by omega, by omega⟩]
    rw [p_new _ (by simp [LIM]; omega)]
    simp only [Option.bind_some, Int.toNat_natCast]
    rw [pr_num _ ((bs_enc n).take _) _ (by simp; omega), hcut]
    simp [p_err, m_cantonlaw02_PackCuts_j5, hj2]

/-! ### PackOnce -/
theorem once_l1 (l2 : List Int) (hb : Bs l2) (hl : l2.length ≤ 20000) : ∀ (k i : Nat) (l o : List Int) (e : Int), 1 ≤ k → (e = 0 → o ++ l = l2 ∧ i ≤ o.length ∧ l.length + 2 ≤ k) →
    m_cantonlaw02_PackOnce_l1 l2 true k (i : Int) l e o false = some true
  | 0, i, l, o, e, h, _ => by omega
  | k + 1, i, l, o, e, h, h0 => by
    unfold m_cantonlaw02_PackOnce_l1
    simp only [p_err, p_end, Option.bind_some]
    by_cases he : e = 0
    · subst he
      obtain ⟨h1, h2, h3⟩ := h0 rfl
      have ho : o.length ≤ 20000 := by have := congrArg List.length h1; simp at this; omega
      have hend : l = [] → (m_pack_Writer_Bytes o false).bind (fun u => if true = true then (if ((0 : Int) == 0 && l.isEmpty) = true then (if (u.2 == 0) = true then (some (sEq (strOf u.1) (strOf l2))) else (some (false))) else (some (false))) else (some (false))) = some true := by
        rintro rfl
        rw [List.append_nil] at h1
        subst h1
        rw [pw_bytes _ _ (by simp [LIM]; omega)]
        simp [sEq_self]
      by_cases hi : i < l2.length
      · rw [if_pos (by simpa using hi)]
        by_cases hle : l = []
        · have := hend hle
          simp only [if_true] at this
          subst hle
          simpa using this
        · have hcs : l.isEmpty = false := by simpa using hle
          rw [if_pos (by simp [hcs]), if_pos (by simp)]
          have hbl : Bs l := (h1 ▸ hb : Bs (o ++ l)).right
          rw [pr_num l hbl _ (by have := congrArg List.length h1; simp at this; omega)]
          simp only [Option.bind_some]
          rcases rd_all 281474976710656 hbl with ⟨e, he, h4⟩ | ⟨v, cs, h4, h5, h6, h7⟩
          · rw [h4, if_neg (by simp; omega)]
            unfold m_cantonlaw02_PackOnce_j1
            rw [show IntKind.i64.wrap ((i : Int) + 1) = ((i + 1 : Nat) : Int) from by rw [w64 (by omega) (by omega)]; rfl]
            exact once_l1 l2 hb hl k _ _ _ _ (by omega) (fun hz => absurd hz (by dsimp only; omega))
          · have hp := enc_pos v
            rw [h4, if_pos (by simp)]
            simp only
            rw [pw_num o false v h7 (by simp [LIM]; omega)]
            simp only [Option.bind_some]
            unfold m_cantonlaw02_PackOnce_j1
            rw [show IntKind.i64.wrap ((i : Int) + 1) = ((i + 1 : Nat) : Int) from by rw [w64 (by omega) (by omega)]; rfl]
            have hll := congrArg List.length h5
            rw [List.length_append] at hll
            exact once_l1 l2 hb hl k _ _ _ _ (by omega) (fun hz => ⟨by rw [List.append_assoc, ← h5, h1], by simp; omega, by omega⟩)
      · have hle : l = [] := by
          have := congrArg List.length h1
          simp at this
          exact List.length_eq_zero_iff.1 (by omega)
        have := hend hle
        simp only [if_true] at this
        rw [if_neg (by simpa using hi), if_neg (by simp)]
        simpa using this
    · have h1 : (e != 0) = true := by simpa using he
      have h2 : (e == 0) = false := by simpa using he
      simp [h1, h2, he]
theorem pure_once (l : List Int) (hb : Bs l) : m_cantonlaw02_PackOnce l = some true := by
  unfold m_cantonlaw02_PackOnce
  rw [head_t]
  simp only [Option.bind_some]
  by_cases h : (l.length : Int) > 20000
  · rw [if_pos (by simpa using h)]
  · rw [if_neg (by simpa using h), p_new _ (by simp [LIM]; omega)]
    exact once_l1 l hb (by omega) _ 0 _ _ _ (by omega) (fun _ => ⟨rfl, by simp, by omega⟩)
end Go.Cb
