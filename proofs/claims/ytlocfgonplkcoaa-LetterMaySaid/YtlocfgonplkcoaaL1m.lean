/- Packing, plainly: what a number is as bytes, and how it is read. -/
import Derived.Test.YtlocfgonplkcoaaB12m
import Derived.IntWalk
import Derived.Test.YtlocfgonplkcoaaKm1
set_option linter.unusedVariables false
set_option linter.unusedSimpArgs false
namespace Go.Cb
open Go.RowKit

theorem w64 {n : Int} (h : -9223372036854775808 ≤ n) (h' : n ≤ 9223372036854775807) : IntKind.i64.wrap n = n := IntWalk.i64_in n ⟨h, h'⟩
theorem ck_b {α : Type} {p : Prop} [Decidable p] (h : p) (f : Unit → Option α) : (ck p).bind f = f () := by simp [ck, h]
theorem idx_lt {α : Type} {l : List α} {i : Nat} (h : i < l.length) : idx l (i : Int) = some l[i] := by simp [idx, h]
theorem u8w (n : Nat) : IntKind.u8.wrap (n : Int) = ((n % 256 : Nat) : Int) := by rw [IntKind.wrap_u8]; omega
theorem and127 (n : Nat) (h : n < 256) : iand .u8 (n : Int) 127 = ((n % 128 : Nat) : Int) := by
  have : ∀ m : Fin 256, iand .u8 ((m.val : Nat) : Int) 127 = ((m.val % 128 : Nat) : Int) := by decide +kernel
  exact this ⟨n, h⟩
theorem or128 (n : Nat) (h : n < 128) : ior .u8 (n : Int) 128 = (n : Int) + 128 := by
  have : ∀ m : Fin 128, ior .u8 ((m.val : Nat) : Int) 128 = (m.val : Int) + 128 := by decide +kernel
  exact this ⟨n, h⟩
theorem wand (n : Nat) : iand .u8 (IntKind.u8.wrap (n : Int)) 127 = ((n % 128 : Nat) : Int) := by
  rw [u8w, and127 _ (Nat.mod_lt _ (by omega))]; omega
theorem wor (n : Nat) : ior .u8 (iand .u8 (IntKind.u8.wrap (n : Int)) 127) 128 = ((n % 128 : Nat) : Int) + 128 := by
  rw [wand, or128 _ (Nat.mod_lt _ (by omega))]
theorem shr7 (x j : Nat) (hj : j ≤ 9) : ishr .i64 (x : Int) ((7 * j : Nat) : Int) = ((x / 128 ^ j : Nat) : Int) := by
  unfold ishr
  have h2 : (2 : Int) ^ (7 * j) = ((128 ^ j : Nat) : Int) := by
    rw [show (128 : Nat) = 2 ^ 7 from rfl, ← Nat.pow_mul]; norm_cast
  rw [Int.toNat_natCast, show IntKind.i64.bits = 64 from rfl, Nat.min_eq_left (by omega), Int.fdiv_eq_ediv_of_nonneg _ (Int.pow_nonneg (by omega)), h2]
  norm_cast
/-! ### what a number is as bytes -/
def hi (n : Nat) : List Int := if n = 0 then [] else hi (n / 128) ++ [((n % 128 : Nat) : Int) + 128]
  termination_by n
  decreasing_by omega
def enc (n : Nat) : List Int := hi (n / 128) ++ [((n % 128 : Nat) : Int)]
theorem hi_zero : hi 0 = [] := by unfold hi; simp
theorem hi_pos {n : Nat} (h : n ≠ 0) : hi n = hi (n / 128) ++ [((n % 128 : Nat) : Int) + 128] := by rw [hi]; simp [h]
theorem hi_len : ∀ (j n : Nat), n < 128 ^ j → (hi n).length ≤ j
  | 0, n, h => by have : n = 0 := by simpa using h
                  subst this; rw [hi_zero]; simp
  | j + 1, n, h => by
    by_cases h0 : n = 0
    · subst h0; rw [hi_zero]; simp
    · rw [hi_pos h0, List.length_append]
      have := hi_len j (n / 128) (by rw [Nat.div_lt_iff_lt_mul (by omega)]; rw [Nat.pow_succ] at h; exact h)
      simp; omega
def dg (x : Nat) : Nat → List Int
  | 0 => [((x % 128 : Nat) : Int)]
  | j + 1 => (((x / 128 ^ (j + 1) % 128 : Nat) : Int) + 128) :: dg x j
theorem dg_enc (x : Nat) : ∀ j, (∀ i, 1 ≤ i → i ≤ j → x / 128 ^ i ≠ 0) → hi (x / 128 ^ (j + 1)) ++ dg x j = enc x
  | 0, _ => by simp [dg, enc]
  | j + 1, h => by
    rw [← dg_enc x j (fun i h1 h2 => h i h1 (by omega)), hi_pos (h (j + 1) (by omega) (by omega)), dg]
    rw [Nat.div_div_eq_div_mul, ← Nat.pow_succ]
    simp
theorem pw_l2 (x : Nat) (b : Bool) : ∀ (j k : Nat) (l : List Int), j ≤ 7 → j + 1 ≤ k → l.length + j + 1 ≤ LIM → m_pack_Writer_Num_l2 (x : Int) b k ((7 * j : Nat) : Int) l = some (l ++ dg x j, b)
  | 0, k + 1, l, _, _, hl => by
    unfold m_pack_Writer_Num_l2
    rw [if_neg (by simp), ck_b (by simpa using hl), wand]
    rfl
  | j + 1, k + 1, l, hj, hk, hl => by
    unfold m_pack_Writer_Num_l2
    rw [if_pos (by simp; omega), ck_b (by omega), ck_b (by simp; omega), shr7 x (j + 1) (by omega), wor]
    rw [show IntKind.i64.wrap (((7 * (j + 1) : Nat) : Int) - 7) = ((7 * j : Nat) : Int) from by rw [w64 (by omega) (by omega)]; omega]
    rw [pw_l2 x b j k _ (by omega) (by omega) (by simp; omega)]
    simp [dg]
theorem pw_l1 (x : Nat) (b : Bool) (l : List Int) (hx : x ≤ 281474976710656) (hl : l.length + 10 ≤ LIM) : ∀ (k j : Nat), j ≤ 6 → j + k = 9 → (∀ i, 1 ≤ i → i ≤ j → x / 128 ^ i ≠ 0) →
    m_pack_Writer_Num_l1 (x : Int) b l k ((7 * j : Nat) : Int) = some (l ++ enc x, b)
  | 0, j, h, h', _ => by omega
  | k + 1, j, h, h', hp => by
    unfold m_pack_Writer_Num_l1
    rw [ck_b (by omega), shr7 x j (by omega)]
    obtain ⟨q, hq⟩ : ∃ q, q = x / 128 ^ j := ⟨_, rfl⟩
    by_cases hc : x / 128 ^ j > 127
    · rw [if_pos (by rw [← hq] at hc ⊢; simp; omega), show IntKind.i64.wrap (((7 * j : Nat) : Int) + 7) = ((7 * (j + 1) : Nat) : Int) from by rw [w64 (by omega) (by omega)]; omega]
      have hne : x / 128 ^ (j + 1) ≠ 0 := by rw [Nat.pow_succ, ← Nat.div_div_eq_div_mul]; rw [← hq] at hc ⊢; omega
      have hj : j ≠ 6 := by
        rintro rfl
        have : x / 128 ^ 6 ≤ 281474976710656 / 128 ^ 6 := Nat.div_le_div_right hx
        omega
      refine pw_l1 x b l hx hl k (j + 1) (by omega) (by omega) (fun i h1 h2 => ?_)
      rcases Nat.lt_or_ge i (j + 1) with h3 | h3
      · exact hp i h1 (by omega)
      · rw [show i = j + 1 from by omega]; exact hne
    · rw [if_neg (by rw [← hq] at hc ⊢; simp; omega), pw_l2 x b j 9 l (by omega) (by omega) (by omega)]
      have hz : x / 128 ^ (j + 1) = 0 := by rw [Nat.pow_succ, ← Nat.div_div_eq_div_mul]; rw [← hq] at hc ⊢; omega
      have := dg_enc x j hp
      rw [hz, hi_zero, List.nil_append] at this
      rw [this]
theorem pw_num (l : List Int) (b : Bool) (x : Nat) (hx : x ≤ 281474976710656) (hl : l.length + 10 ≤ LIM) : m_pack_Writer_Num l b (x : Int) = some (l ++ enc x, b) := by
  unfold m_pack_Writer_Num m_pack_Writer_Num_j1
  rw [if_neg (by simp), if_neg (by simp; omega)]
  exact pw_l1 x b l hx hl 9 0 (by omega) (by omega) (fun i h1 h2 => by omega)
theorem pw_bad (l : List Int) (b : Bool) (x : Int) (hx : x < 0 ∨ x > 281474976710656) : m_pack_Writer_Num l b x = some (l, true) := by
  unfold m_pack_Writer_Num m_pack_Writer_Num_j1
  rcases hx with hx | hx
  · rw [if_pos (by simpa using hx)]; rfl
  · rw [if_neg (by simp; omega), if_pos (by simpa using hx)]
theorem enc_len (n : Nat) (h : n ≤ 281474976710656) : (enc n).length ≤ 7 := by
  have := hi_len 6 (n / 128) (by omega)
  simp [enc]; omega
theorem enc_pos (n : Nat) : 0 < (enc n).length := by simp [enc]

/-! ### the document's -/
/-! ### how a number is read -/
def Bs (l : List Int) : Prop := ∀ x ∈ l, 0 ≤ x ∧ x ≤ 255
def go (sh : Bool) (M : Int) : Nat → List Int → Nat → Int × List Int × Int
  | _, [], _ => (0, [], if sh then 21 else 3)
  | i, c :: cs, n => if i = 7 then (0, [], 3) else if c > 127 then go sh M (i + 1) cs (n * 128 + (c.toNat % 128)) else
    if ((n * 128 + c.toNat : Nat) : Int) > min M 281474976710656 then (0, [], 3) else (((n * 128 + c.toNat : Nat) : Int), cs, 0)
def rd (M : Int) (l : List Int) : Int × List Int × Int := if l.head? = some 128 then (0, [], 3) else go (decide (l.length < 7)) M 0 l 0
end Go.Cb
