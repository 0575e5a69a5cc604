/- Base 31: strings' order as the library's comparison tells it. -/
import Derived.Test.YtgdfoajophpblaaGreatDoorB30px
set_option linter.unusedVariables false
set_option linter.unusedSimpArgs false
namespace Go.Cb
open Go.Proofs Go.RowKit

def zb (s : ByteArray) : List UInt8 := s.data.toList
theorem zb_size (s : ByteArray) : s.size = (zb s).length := by simp [zb]
theorem zl_irrefl (a : List UInt8) : ¬ a < a := List.lt_irrefl a
theorem zl_trans {a b c : List UInt8} (h : a < b) (k : b < c) : a < c := List.lt_trans h k
theorem zl_tri (a b : List UInt8) : a < b ∨ a = b ∨ b < a := by
  rcases Decidable.em (a < b) with h | h
  · exact .inl h
  · rcases Decidable.em (b < a) with k | k
    · exact .inr (.inr k)
    · exact .inr (.inl (List.le_antisymm (List.not_lt.1 k) (List.not_lt.1 h)))
theorem zl_asymm {a b : List UInt8} (h : a < b) : ¬ b < a := fun k => zl_irrefl _ (zl_trans h k)
theorem zl_app (a : List UInt8) {b c : List UInt8} (h : b < c) : a ++ b < a ++ c := by
  induction a with
  | nil => exact h
  | cons x a ih => exact List.Lex.cons ih
theorem zl_pre (a : List UInt8) {b : List UInt8} (h : b ≠ []) : a < a ++ b := by
  have := zl_app a (b := []) (c := b) (by cases b with | nil => exact absurd rfl h | cons x b => exact List.Lex.nil)
  simpa using this
theorem zcmp_eq (s t : ByteArray) : Extern.BytealgCompare.cmp s t = if zb s < zb t then -1 else if zb s = zb t then 0 else 1 := by
  have hs := zb_size s
  have ht := zb_size t
  have hat : ∀ (u : ByteArray) (i : Nat) (hi : i < (zb u).length), u[i]! = (zb u)[i] := fun u i hi => by
    rw [getElem!_pos u i (by rw [zb_size]; exact hi)]; rfl
  unfold Extern.BytealgCompare.cmp
  cases hf : (List.range (min s.size t.size)).find? (fun i => s[i]! != t[i]!) with
  | some i =>
    rw [List.find?_range_eq_some] at hf
    obtain ⟨h1, h2, h3⟩ := hf
    rw [List.mem_range] at h2
    have hi1 : i < (zb s).length := by omega
    have hi2 : i < (zb t).length := by omega
    rw [hat s i hi1, hat t i hi2] at h1
    have hne : (zb s)[i] ≠ (zb t)[i] := by simpa using h1
    have hpre : (zb s).take i = (zb t).take i := by
      apply List.ext_getElem?
      intro j
      rw [List.getElem?_take, List.getElem?_take]
      by_cases hj : j < i
      · rw [if_pos hj, if_pos hj]
        have := h3 j hj
        rw [hat s j (by omega), hat t j (by omega)] at this
        have : (zb s)[j] = (zb t)[j] := by simpa using this
        rw [List.getElem?_eq_getElem (by omega), List.getElem?_eq_getElem (by omega), this]
      · rw [if_neg hj, if_neg hj]
    have es : zb s = (zb s).take i ++ (zb s)[i] :: (zb s).drop (i + 1) := by rw [← List.drop_eq_getElem_cons hi1, List.take_append_drop]
    have et : zb t = (zb s).take i ++ (zb t)[i] :: (zb t).drop (i + 1) := by rw [hpre, ← List.drop_eq_getElem_cons hi2, List.take_append_drop]
    have heq : zb s ≠ zb t := fun e => hne (by simp only [e])
    simp only
    rw [hat s i hi1, hat t i hi2]
    rcases UInt8.lt_or_lt_of_ne hne with h | h
    · have : zb s < zb t := by
        rw [es, et]; exact zl_app _ (List.Lex.rel h)
      rw [if_pos h, if_pos this]
    · have : zb t < zb s := by
        rw [es, et]; exact zl_app _ (List.Lex.rel h)
      rw [if_neg (fun h' => absurd (UInt8.lt_trans h h') (UInt8.lt_irrefl _)), if_neg (zl_asymm this), if_neg heq]
  | none =>
    rw [List.find?_eq_none] at hf
    have hall : ∀ j, j < (zb s).length → j < (zb t).length → (zb s)[j]? = (zb t)[j]? := fun j h1 h2 => by
      have := hf j (List.mem_range.2 (by omega))
      rw [hat s j h1, hat t j h2] at this
      have : (zb s)[j] = (zb t)[j] := by simpa using this
      rw [List.getElem?_eq_getElem h1, List.getElem?_eq_getElem h2, this]
    simp only
    rw [hs, ht]
    by_cases h1 : (zb s).length < (zb t).length
    · have e : zb t = zb s ++ (zb t).drop (zb s).length := by
        conv => lhs; rw [← List.take_append_drop (zb s).length (zb t)]
        congr 1
        apply List.ext_getElem?
        intro j
        rw [List.getElem?_take]
        by_cases hj : j < (zb s).length
        · rw [if_pos hj, hall j hj (by omega)]
        · rw [if_neg hj, List.getElem?_eq_none (by omega)]
      have : zb s < zb t := by
        rw [e]; exact zl_pre _ (by intro h; have := congrArg List.length h; simp at this; omega)
      rw [if_pos h1, if_pos this]
    · rw [if_neg h1]
      by_cases h2 : (zb s).length > (zb t).length
      · have e : zb s = zb t ++ (zb s).drop (zb t).length := by
          conv => lhs; rw [← List.take_append_drop (zb t).length (zb s)]
          congr 1
          apply List.ext_getElem?
          intro j
          rw [List.getElem?_take]
          by_cases hj : j < (zb t).length
          · rw [if_pos hj, hall j (by omega) hj]
          · rw [if_neg hj, List.getElem?_eq_none (by omega)]
        have : zb t < zb s := by
          rw [e]; exact zl_pre _ (by intro h; have := congrArg List.length h; simp at this; omega)
        rw [if_pos h2, if_neg (zl_asymm this), if_neg (fun e => zl_irrefl _ (e ▸ this))]
      · have e : zb s = zb t := by
          apply List.ext_getElem?
          intro j
          by_cases hj : j < (zb s).length
          · exact hall j hj (by omega)
          · rw [List.getElem?_eq_none (by omega), List.getElem?_eq_none (by omega)]
        rw [if_neg h2, e, if_neg (zl_irrefl _), if_pos rfl]
theorem zcmp_lt (s t : ByteArray) : decide (Extern.BytealgCompare.cmp s t < 0) = decide (zb s < zb t) := by
  rw [zcmp_eq]
  by_cases h : zb s < zb t
  · rw [if_pos h]; simp [h]
  · rw [if_neg h]
    split <;> simp [h]
theorem zswo {α : Type} (f : α → ByteArray) : Sort.SWO (ltOf fun x y => Extern.BytealgCompare.cmp (f x) (f y)) := by
  have e : ∀ x y, ltOf (fun x y => Extern.BytealgCompare.cmp (f x) (f y)) x y = decide (zb (f x) < zb (f y)) := fun x y => zcmp_lt _ _
  refine ⟨fun x => ?_, fun x y z h1 h2 => ?_, fun x y z h1 h2 => ?_⟩
  · rw [e]; simp [zl_irrefl]
  · rw [e] at h1 h2 ⊢
    simp only [decide_eq_true_eq] at h1 h2 ⊢
    exact zl_trans h1 h2
  · rw [e] at h1 h2 ⊢
    simp only [decide_eq_false_iff_not] at h1 h2 ⊢
    intro h
    rcases zl_tri (zb (f y)) (zb (f x)) with g | g | g
    · exact h2 (zl_trans g h)
    · exact h2 (g ▸ h)
    · exact h1 g
end Go.Cb
