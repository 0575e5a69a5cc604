/- Packing, plainly: what is written is read as it was; what is read is as it would be written. -/
import Derived.Test.YtlocfgonplkcoaaL1m
import Derived.ChangeKeysEq
set_option linter.unusedVariables false
set_option linter.unusedSimpArgs false
namespace Go.Cb
open Go.RowKit

theorem strOf_bytesOf (s : ByteArray) : strOf (bytesOf s) = s := by
  cases s with | mk d => 
  unfold strOf bytesOf
  congr 1
  simp only [List.map_map]
  have : ((fun n : Int => UInt8.ofNat n.toNat) ∘ fun b : UInt8 => (b.toNat : Int)) = id := by
    funext b; simp
  rw [this]; simp
theorem bytesOf_len (s : ByteArray) : (bytesOf s).length = s.size := by unfold bytesOf; rw [List.length_map, Array.length_toList]; rfl
theorem bytesOf_strOf {l : List Int} (h : Bs l) : bytesOf (strOf l) = l := by
  unfold strOf bytesOf
  simp only [List.map_map]
  conv => rhs; rw [← List.map_id l]
  refine List.map_congr_left fun x hx => ?_
  have := h x hx
  simp
  omega
theorem Bs.nil : Bs [] := by intro x h; simp at h
theorem Bs.app {a b : List Int} (ha : Bs a) (hb : Bs b) : Bs (a ++ b) := by
  intro x h
  rcases List.mem_append.1 h with h | h
  · exact ha x h
  · exact hb x h
theorem Bs.right {a b : List Int} (h : Bs (a ++ b)) : Bs b := fun x hx => h x (List.mem_append_right _ hx)
theorem Bs.drop {a : List Int} (h : Bs a) (n : Nat) : Bs (a.drop n) := fun x hx => h x (List.mem_of_mem_drop hx)
theorem Bs.take {a : List Int} (h : Bs a) (n : Nat) : Bs (a.take n) := fun x hx => h x (List.mem_of_mem_take hx)
theorem bs_bytesOf (s : ByteArray) : Bs (bytesOf s) := by
  intro x hx
  obtain ⟨b, _, rfl⟩ := List.mem_map.1 hx
  have := b.toNat_lt
  omega
theorem bs_hi (n : Nat) : Bs (hi n) := by
  induction n using Nat.strongRecOn with
  | _ n ih =>
    by_cases h : n = 0
    · subst h; rw [hi_zero]; exact Bs.nil
    · rw [hi_pos h]
      refine (ih _ (by omega)).app ?_
      intro x hx
      simp at hx
      omega
theorem bs_enc (n : Nat) : Bs (enc n) := (bs_hi _).app (by intro x hx; simp at hx; omega)
theorem hi_head {n : Nat} (h : n ≠ 0) : ∃ c t, hi n = c :: t ∧ c > 128 := by
  induction n using Nat.strongRecOn with
  | _ n ih =>
    rw [hi_pos h]
    by_cases h0 : n / 128 = 0
    · rw [h0, hi_zero]
      exact ⟨_, [], rfl, by omega⟩
    · obtain ⟨c, t, h1, h2⟩ := ih (n / 128) (by omega) h0
      exact ⟨c, t ++ [((n % 128 : Nat) : Int) + 128], by rw [h1]; rfl, h2⟩
theorem enc_head (n : Nat) (cs : List Int) : (enc n ++ cs).head? ≠ some 128 := by
  unfold enc
  by_cases h : n / 128 = 0
  · rw [h, hi_zero]
    simp
    omega
  · obtain ⟨c, t, h1, h2⟩ := hi_head h
    rw [h1]
    simp
    omega
theorem go_hi (sh : Bool) (M : Int) (m : Nat) : ∀ (i : Nat) (cs : List Int), i + (hi m).length ≤ 7 → go sh M i (hi m ++ cs) 0 = go sh M (i + (hi m).length) cs m := by
  induction m using Nat.strongRecOn with
  | _ m ih =>
    intro i cs h
    by_cases h0 : m = 0
    · subst h0; rw [hi_zero]; rfl
    · rw [hi_pos h0] at h ⊢
      rw [List.length_append] at h ⊢
      simp only [List.length_singleton] at h ⊢
      rw [List.append_assoc, ih (m / 128) (by omega) i _ (by omega), List.singleton_append, go, if_neg (by omega), if_pos (by omega)]
      have e : (((m % 128 : Nat) : Int) + 128).toNat % 128 = m % 128 := by omega
      rw [e, show m / 128 * 128 + m % 128 = m from by omega, Nat.add_assoc]
theorem rd_enc (M : Int) (n : Nat) (hn : n ≤ 281474976710656) (cs : List Int) : rd M (enc n ++ cs) = if (n : Int) ≤ M then ((n : Int), cs, 0) else (0, [], 3) := by
  unfold rd
  rw [if_neg (enc_head n cs)]
  have hl := hi_len 6 (n / 128) (by omega)
  unfold enc
  rw [List.append_assoc, go_hi _ _ _ _ _ (by omega), List.singleton_append, go, if_neg (by omega), if_neg (by omega), Int.toNat_natCast, show n / 128 * 128 + n % 128 = n from by omega]
  by_cases h : (n : Int) ≤ M
  · rw [if_pos h, if_neg (by omega)]
  · rw [if_neg h, if_pos (by omega)]
theorem go_all (sh : Bool) (M : Int) : ∀ (l : List Int) (i n : Nat), Bs l → (n ≠ 0 ∨ l.head? ≠ some 128) →
    (∃ e, (e = 3 ∨ e = 21) ∧ go sh M i l n = (0, [], e)) ∨ ∃ (v : Nat) (cs : List Int), go sh M i l n = ((v : Int), cs, 0) ∧ hi n ++ l = enc v ++ cs ∧ (v : Int) ≤ M ∧ v ≤ 281474976710656
  | [], i, n, _, _ => by
    refine .inl ⟨if sh then 21 else 3, by cases sh <;> simp, by rw [go]⟩
  | c :: cs, i, n, hb, h => by
    rw [go]
    by_cases h7 : i = 7
    · rw [if_pos h7]; exact .inl ⟨3, .inl rfl, rfl⟩
    rw [if_neg h7]
    have hc := hb c (by simp)
    by_cases hc7 : c > 127
    · rw [if_pos hc7]
      have hne : n * 128 + c.toNat % 128 ≠ 0 := by
        rcases h with h | h
        · omega
        · simp at h; omega
      have e : hi (n * 128 + c.toNat % 128) = hi n ++ [c] := by
        rw [hi_pos hne, show (n * 128 + c.toNat % 128) / 128 = n from by omega, show (n * 128 + c.toNat % 128) % 128 = c.toNat % 128 from by omega]
        congr 2
        omega
      rcases go_all sh M cs (i + 1) _ (fun x hx => hb x (by simp [hx])) (.inl hne) with h1 | ⟨v, cs', h1, h2, h3⟩
      · exact .inl h1
      · refine .inr ⟨v, cs', h1, ?_, h3⟩
        rw [← h2, e]
        simp
    · rw [if_neg hc7]
      by_cases hm : ((n * 128 + c.toNat : Nat) : Int) > min M 281474976710656
      · rw [if_pos hm]; exact .inl ⟨3, .inl rfl, rfl⟩
      · rw [if_neg hm]
        refine .inr ⟨_, cs, rfl, ?_, by omega, by omega⟩
        unfold enc
        rw [show (n * 128 + c.toNat) / 128 = n from by omega, show (n * 128 + c.toNat) % 128 = c.toNat from by omega]
        have : ((c.toNat : Nat) : Int) = c := by omega
        rw [this]
        simp
theorem rd_all (M : Int) {l : List Int} (hb : Bs l) : (∃ e, (e = 3 ∨ e = 21) ∧ rd M l = (0, [], e)) ∨ ∃ (v : Nat) (cs : List Int), rd M l = ((v : Int), cs, 0) ∧ l = enc v ++ cs ∧ (v : Int) ≤ M ∧ v ≤ 281474976710656 := by
  unfold rd
  by_cases h : l.head? = some 128
  · rw [if_pos h]; exact .inl ⟨3, .inl rfl, rfl⟩
  · rw [if_neg h]
    have := go_all (decide (l.length < 7)) M l 0 0 hb (.inr h)
    rwa [hi_zero, List.nil_append] at this

/-! ### texts -/
def rdT (l : List Int) : ByteArray × List Int × Int :=
  if (rd 281474976710656 l).2.2 ≠ 0 then (⟨#[]⟩, (rd 281474976710656 l).2.1, (rd 281474976710656 l).2.2) else
  if (rd 281474976710656 l).1 > ((rd 281474976710656 l).2.1.length : Int) then (⟨#[]⟩, [], 21) else
  (strOf ((rd 281474976710656 l).2.1.take (rd 281474976710656 l).1.toNat), (rd 281474976710656 l).2.1.drop (rd 281474976710656 l).1.toNat, 0)
/-- what a text leaves. -/
theorem rdT_all {l : List Int} (hb : Bs l) : (∃ e, (e = 3 ∨ e = 21) ∧ rdT l = (⟨#[]⟩, [], e)) ∨ ∃ (v : Nat) (cs : List Int), rdT l = (strOf (cs.take v), cs.drop v, 0) ∧ l = enc v ++ cs ∧ v ≤ cs.length ∧ v ≤ 281474976710656 := by
  unfold rdT
  rcases rd_all 281474976710656 hb with ⟨e, he, h⟩ | ⟨v, cs, h, h2, h3, h4⟩
  · rw [h, if_pos (by simp; omega)]; exact .inl ⟨e, he, rfl⟩
  · rw [h, if_neg (by simp)]
    by_cases hv : (v : Int) > (cs.length : Int)
    · rw [if_pos hv]; exact .inl ⟨21, .inr rfl, rfl⟩
    · rw [if_neg hv]; exact .inr ⟨v, cs, rfl, h2, by omega, h4⟩
theorem rdT_bs {l : List Int} (hb : Bs l) : Bs (rdT l).2.1 := by
  rcases rdT_all hb with ⟨e, _, h⟩ | ⟨v, cs, h, h2, _⟩
  · rw [h]; exact Bs.nil
  · rw [h]; exact (h2 ▸ hb : Bs (enc v ++ cs)).right.drop v
theorem rdT_len {l : List Int} (hb : Bs l) : (rdT l).2.1.length ≤ l.length ∧ ((rdT l).2.2 = 0 → (rdT l).2.1.length + 1 ≤ l.length) := by
  rcases rdT_all hb with ⟨e, he, h⟩ | ⟨v, cs, h, h2, _⟩
  · rw [h]
    refine ⟨by simp, fun h0 => ?_⟩
    simp at h0
    omega
  · have := enc_pos v
    rw [h, h2]
    refine ⟨?_, fun _ => ?_⟩ <;> simp only [List.length_append, List.length_drop] <;> omega
def rdTs : Nat → List ByteArray → List Int → Int → List ByteArray × List Int × Int
  | 0, acc, l, e => if e ≠ 0 then ([], l, e) else (acc, l, e)
  | k + 1, acc, l, e => if e ≠ 0 then ([], l, e) else rdTs k (acc ++ [(rdT l).1]) (rdT l).2.1 (rdT l).2.2
def rdL (l : List Int) : List ByteArray × List Int × Int := rdTs (rd 281474976710656 l).1.toNat [] (rd 281474976710656 l).2.1 (rd 281474976710656 l).2.2
theorem rd_bs {M : Int} {l : List Int} (hb : Bs l) : Bs (rd M l).2.1 ∧ (rd M l).2.1.length ≤ l.length ∧ ∃ n : Nat, (rd M l).1 = (n : Int) ∧ n ≤ 281474976710656 := by
  rcases rd_all M hb with ⟨e, _, h⟩ | ⟨v, cs, h, h2, h3, h4⟩
  · rw [h]; exact ⟨Bs.nil, by simp, 0, rfl, by omega⟩
  · rw [h]; refine ⟨(h2 ▸ hb : Bs (enc v ++ cs)).right, by rw [h2]; simp, v, rfl, h4⟩
theorem rdTs_err (k : Nat) (acc : List ByteArray) (l : List Int) (e : Int) (he : e ≠ 0) : rdTs k acc l e = ([], l, e) := by
  cases k <;> simp [rdTs, he]
theorem rdTs_inv : ∀ (k : Nat) (acc : List ByteArray) (l : List Int) (e : Int), Bs l → Bs (rdTs k acc l e).2.1 ∧ (rdTs k acc l e).2.1.length ≤ l.length
  | 0, acc, l, e, hb => by unfold rdTs; split <;> exact ⟨hb, Nat.le_refl _⟩
  | k + 1, acc, l, e, hb => by
    unfold rdTs
    split
    · exact ⟨hb, Nat.le_refl _⟩
    · have := rdTs_inv k (acc ++ [(rdT l).1]) (rdT l).2.1 (rdT l).2.2 (rdT_bs hb)
      have h2 := (rdT_len hb).1
      exact ⟨this.1, by omega⟩
theorem rdL_inv {l : List Int} (hb : Bs l) : Bs (rdL l).2.1 ∧ (rdL l).2.1.length ≤ l.length := by
  unfold rdL
  obtain ⟨h1, h2, _⟩ := rd_bs (M := 281474976710656) hb
  have := rdTs_inv (rd 281474976710656 l).1.toNat [] _ (rd 281474976710656 l).2.2 h1
  exact ⟨this.1, by omega⟩

/-! ### what texts are as bytes -/
def encT (s : ByteArray) : List Int := enc s.size ++ bytesOf s
def encL (L : List ByteArray) : List Int := enc L.length ++ L.flatMap encT
theorem bs_encT (s : ByteArray) : Bs (encT s) := (bs_enc _).app (bs_bytesOf s)
theorem bs_encL (L : List ByteArray) : Bs (encL L) := (bs_enc _).app (by intro x hx; obtain ⟨s, _, hs⟩ := List.mem_flatMap.1 hx; exact bs_encT s x hs)
theorem pw_text (l : List Int) (b : Bool) (s : ByteArray) (hs : s.size ≤ 100000000000) (hl : l.length + s.size + 20 ≤ LIM) : m_pack_Writer_Text l b s = some (l ++ encT s, b) := by
  unfold m_pack_Writer_Text
  have := enc_len s.size (by omega)
  rw [pw_num l b s.size (by omega) (by omega)]
  simp only [Option.bind_some]
  rw [ck_b (by simp; omega)]
  simp [encT]
def wT (s : ByteArray) : Nat := s.size + 7
def wL (L : List ByteArray) : Nat := (L.map wT).sum
theorem pw_texts_l1 (L : List ByteArray) (hL : L.length ≤ 100000000000) (hs : ∀ s ∈ L, s.size ≤ 100000000000) (b : Bool) : ∀ (k i f : Nat) (l : List Int), i + k = L.length → k + 1 ≤ f → l.length + wL (L.drop i) + 20 ≤ LIM →
    m_pack_Writer_Texts_l1 L f (i : Int) l b = some (l ++ (L.drop i).flatMap encT, b)
  | 0, i, f + 1, l, h, h', hl => by
    unfold m_pack_Writer_Texts_l1
    rw [if_neg (by simp; omega), List.drop_eq_nil_of_le (by omega)]
    simp
  | k + 1, i, f + 1, l, h, h', hl => by
    unfold m_pack_Writer_Texts_l1
    have hi : i < L.length := by omega
    have hsz := hs L[i] (List.getElem_mem _)
    rw [List.drop_eq_getElem_cons hi] at hl ⊢
    simp only [wL, List.map_cons, List.sum_cons, wT] at hl
    have := enc_len L[i].size (by omega)
    have e := bytesOf_len L[i]
    rw [if_pos (by simp; omega), idx_lt hi]
    simp only [Option.bind_some]
    rw [pw_text l b _ (by omega) (by omega)]
    simp only [Option.bind_some]
    rw [show IntKind.i64.wrap ((i : Int) + 1) = ((i + 1 : Nat) : Int) from by rw [w64 (by omega) (by omega)]; rfl]
    rw [pw_texts_l1 L hL hs b k (i + 1) f _ (by omega) (by omega) (by simp only [encT, List.length_append, wL]; omega)]
    rw [List.flatMap_cons, List.append_assoc]
theorem pw_texts (l : List Int) (b : Bool) (L : List ByteArray) (hL : L.length ≤ 100000000000) (hs : ∀ s ∈ L, s.size ≤ 100000000000) (hl : l.length + wL L + 40 ≤ LIM) : m_pack_Writer_Texts l b L = some (l ++ encL L, b) := by
  unfold m_pack_Writer_Texts
  have := enc_len L.length (by omega)
  rw [pw_num l b L.length (by omega) (by omega)]
  simp only [Option.bind_some]
  have := pw_texts_l1 L hL hs b L.length 0 (((L.length : Int) - 0 : Int).toNat + 1) (l ++ enc L.length) (by omega) (by omega) (by simp; omega)
  rw [List.drop_zero] at this
  rw [show ((0 : Nat) : Int) = 0 from rfl] at this
  rw [this]
  simp [encL]
theorem rdT_enc (s : ByteArray) (hs : s.size ≤ 100000000000) (cs : List Int) : rdT (encT s ++ cs) = (s, cs, 0) := by
  unfold rdT encT
  have e := bytesOf_len s
  have hr := rd_enc 281474976710656 s.size (by omega) (bytesOf s ++ cs)
  rw [if_pos (by omega)] at hr
  rw [List.append_assoc, hr, if_neg (by simp), if_neg (by simp; omega)]
  simp only [Int.toNat_natCast]
  rw [← e, List.take_left, List.drop_left, strOf_bytesOf]
theorem rdTs_enc : ∀ (L acc : List ByteArray) (cs : List Int), (∀ s ∈ L, s.size ≤ 100000000000) → rdTs L.length acc (L.flatMap encT ++ cs) 0 = (acc ++ L, cs, 0)
  | [], acc, cs, _ => by simp [rdTs]
  | s :: L, acc, cs, h => by
    rw [List.length_cons, rdTs, if_neg (by simp), List.flatMap_cons, List.append_assoc, rdT_enc s (h s (by simp))]
    rw [rdTs_enc L _ cs fun t ht => h t (by simp [ht])]
    simp
theorem rdL_enc (L : List ByteArray) (hL : L.length ≤ 100000000000) (h : ∀ s ∈ L, s.size ≤ 100000000000) (cs : List Int) : rdL (encL L ++ cs) = (L, cs, 0) := by
  unfold rdL encL
  rw [List.append_assoc, rd_enc _ _ (by omega), if_pos (by omega)]
  simp only [Int.toNat_natCast]
  rw [rdTs_enc L [] cs h]
  simp
theorem pw_bytes (l : List Int) (b : Bool) (hl : l.length ≤ LIM) : m_pack_Writer_Bytes l b = some (if b then ([], 1) else (l, 0)) := by
  unfold m_pack_Writer_Bytes
  cases b
  · rw [if_neg (by simp), ck_b hl]; rfl
  · rfl
end Go.Cb
