/- Packing, plainly: what a number is as bytes, and how it is read. -/
import Derived.Test.YtlocfgonplkcoaaB12
import Derived.IntWalk
import Derived.Test.YtlocfgonplkcoaaKc1
set_option linter.unusedVariables false
set_option linter.unusedSimpArgs false
namespace Go.Cb
open Go.RowKit

theorem w64 {n : Int} (h : -9223372036854775808 ≤ n) (h' : n ≤ 9223372036854775807) : IntKind.i64.wrap n = n := IntWalk.i64_in n ⟨h, h'⟩
theorem ck_t {p : Prop} [Decidable p] (h : p) : ck p = some () := by simp [ck, h]
theorem ck_b {α : Type} {p : Prop} [Decidable p] (h : p) (f : Unit → Option α) : (ck p).bind f = f () := by simp [ck, h]
theorem idx_lt {α : Type} {l : List α} {i : Nat} (h : i < l.length) : idx l (i : Int) = some l[i] := by simp [idx, h]
theorem u8w (n : Nat) : IntKind.u8.wrap (n : Int) = ((n % 256 : Nat) : Int) := by rw [IntKind.wrap_u8]; omega
theorem and127 (n : Nat) (h : n < 256) : iand .u8 (n : Int) 127 = ((n % 128 : Nat) : Int) := by
  have : ∀ m : Fin 256, iand .u8 ((m.val : Nat) : Int) 127 = ((m.val % 128 : Nat) : Int) := by decide +kernel
  exact this ⟨n, h⟩
theorem or128 (n : Nat) (h : n < 128) : ior .u8 (n : Int) 128 = (n : Int) + 128 := by
  have : ∀ m : Fin 128, ior .u8 ((m.val : Nat) : Int) 128 = (m.val : Int) + 128 := by decide +kernel
  exact this ⟨n, h⟩
theorem wand (n : Nat) : iand .u8 (IntKind.u8.wrap (n : Int)) 127 = ((n % 128 : Nat) : Int) := by
  rw [u8w, and127 _ (Nat.mod_lt _ (by omega))]; omega
theorem wor (n : Nat) : ior .u8 (iand .u8 (IntKind.u8.wrap (n : Int)) 127) 128 = ((n % 128 : Nat) : Int) + 128 := by
  rw [wand, or128 _ (Nat.mod_lt _ (by omega))]
theorem shr7 (x j : Nat) (hj : j ≤ 9) : ishr .i64 (x : Int) ((7 * j : Nat) : Int) = ((x / 128 ^ j : Nat) : Int) := by
  unfold ishr
  have h2 : (2 : Int) ^ (7 * j) = ((128 ^ j : Nat) : Int) := by
    rw [show (128 : Nat) = 2 ^ 7 from rfl, ← Nat.pow_mul]; norm_cast
  rw [Int.toNat_natCast, show IntKind.i64.bits = 64 from rfl, Nat.min_eq_left (by omega), Int.fdiv_eq_ediv_of_nonneg _ (Int.pow_nonneg (by omega)), h2]
  norm_cast
theorem shl7 (n : Nat) (h : n < 2 ^ 50) : ishl .i64 (n : Int) 7 = ((n * 128 : Nat) : Int) := by
  unfold ishl
  rw [show min (Int.toNat 7) IntKind.i64.bits = 7 from rfl, w64 (by omega) (by omega)]
  omega
theorem or64 (n c : Nat) (h : n < 2 ^ 50) (hc : c < 128) : ior .i64 ((n * 128 : Nat) : Int) (c : Int) = ((n * 128 + c : Nat) : Int) := by
  unfold ior
  rw [show IntKind.i64.bits = 64 from rfl, BitVec.toNat_or, BitVec.toNat_ofInt, BitVec.toNat_ofInt]
  have h1 : (((n * 128 : Nat) : Int) % ((2 ^ 64 : Nat) : Int)).toNat = n <<< 7 := by rw [Nat.shiftLeft_eq]; omega
  have h2 : ((c : Int) % ((2 ^ 64 : Nat) : Int)).toNat = c := by omega
  rw [h1, h2, ← Nat.shiftLeft_add_eq_or_of_lt (by omega : c < 2 ^ 7), Nat.shiftLeft_eq]
  rw [w64 (by omega) (by omega)]

/-! ### what a number is as bytes -/
def hi (n : Nat) : List Int := if n = 0 then [] else hi (n / 128) ++ [((n % 128 : Nat) : Int) + 128]
  termination_by n
  decreasing_by omega
def enc (n : Nat) : List Int := hi (n / 128) ++ [((n % 128 : Nat) : Int)]
theorem hi_zero : hi 0 = [] := by unfold hi; simp
theorem hi_pos {n : Nat} (h : n ≠ 0) : hi n = hi (n / 128) ++ [((n % 128 : Nat) : Int) + 128] := by rw [hi]; simp [h]
theorem hi_len : ∀ (j n : Nat), n < 128 ^ j → (hi n).length ≤ j
  | 0, n, h => by have : n = 0 := by simpa using h
                  subst this; rw [hi_zero]; simp
  | j + 1, n, h => by
    by_cases h0 : n = 0
    · subst h0; rw [hi_zero]; simp
    · rw [hi_pos h0, List.length_append]
      have := hi_len j (n / 128) (by rw [Nat.div_lt_iff_lt_mul (by omega)]; rw [Nat.pow_succ] at h; exact h)
      simp; omega
def dg (x : Nat) : Nat → List Int
  | 0 => [((x % 128 : Nat) : Int)]
  | j + 1 => (((x / 128 ^ (j + 1) % 128 : Nat) : Int) + 128) :: dg x j
theorem dg_len (x : Nat) : ∀ j, (dg x j).length = j + 1
  | 0 => rfl
  | j + 1 => by simp [dg, dg_len x j]
theorem dg_enc (x : Nat) : ∀ j, (∀ i, 1 ≤ i → i ≤ j → x / 128 ^ i ≠ 0) → hi (x / 128 ^ (j + 1)) ++ dg x j = enc x
  | 0, _ => by simp [dg, enc]
  | j + 1, h => by
    rw [← dg_enc x j (fun i h1 h2 => h i h1 (by omega)), hi_pos (h (j + 1) (by omega) (by omega)), dg]
    rw [Nat.div_div_eq_div_mul, ← Nat.pow_succ]
    simp
theorem pw_l2 (x : Nat) (b : Bool) : ∀ (j k : Nat) (l : List Int), j ≤ 7 → j + 1 ≤ k → l.length + j + 1 ≤ LIM → m_pack_Writer_Num_l2 (x : Int) b k ((7 * j : Nat) : Int) l = some (l ++ dg x j, b)
  | 0, k + 1, l, _, _, hl => by
    unfold m_pack_Writer_Num_l2
    rw [if_neg (by simp), ck_b (by simpa using hl), wand]
    rfl
  | j + 1, k + 1, l, hj, hk, hl => by
    unfold m_pack_Writer_Num_l2
    rw [if_pos (by simp; omega), ck_b (by omega), ck_b (by simp; omega), shr7 x (j + 1) (by omega), wor]
    rw [show IntKind.i64.wrap (((7 * (j + 1) : Nat) : Int) - 7) = ((7 * j : Nat) : Int) from by rw [w64 (by omega) (by omega)]; omega]
    rw [pw_l2 x b j k _ (by omega) (by omega) (by simp; omega)]
    simp [dg]
theorem pw_l1 (x : Nat) (b : Bool) (l : List Int) (hx : x ≤ 281474976710656) (hl : l.length + 10 ≤ LIM) : ∀ (k j : Nat), j ≤ 6 → j + k = 9 → (∀ i, 1 ≤ i → i ≤ j → x / 128 ^ i ≠ 0) →
    m_pack_Writer_Num_l1 (x : Int) b l k ((7 * j : Nat) : Int) = some (l ++ enc x, b)
  | 0, j, h, h', _ => by omega
  | k + 1, j, h, h', hp => by
    unfold m_pack_Writer_Num_l1
    rw [ck_b (by omega), shr7 x j (by omega)]
    obtain ⟨q, hq⟩ : ∃ q, q = x / 128 ^ j := ⟨_, rfl⟩
    by_cases hc : x / 128 ^ j > 127
    · rw [if_pos (by rw [← hq] at hc ⊢; simp; omega), show IntKind.i64.wrap (((7 * j : Nat) : Int) + 7) = ((7 * (j + 1) : Nat) : Int) from by rw [w64 (by omega) (by omega)]; omega]
      have hne : x / 128 ^ (j + 1) ≠ 0 := by rw [Nat.pow_succ, ← Nat.div_div_eq_div_mul]; rw [← hq] at hc ⊢; omega
      have hj : j ≠ 6 := by
        rintro rfl
        have : x / 128 ^ 6 ≤ 281474976710656 / 128 ^ 6 := Nat.div_le_div_right hx
        omega
      refine pw_l1 x b l hx hl k (j + 1) (by omega) (by omega) (fun i h1 h2 => ?_)
      rcases Nat.lt_or_ge i (j + 1) with h3 | h3
      · exact hp i h1 (by omega)
      · rw [show i = j + 1 from by omega]; exact hne
    · rw [if_neg (by rw [← hq] at hc ⊢; simp; omega), pw_l2 x b j 9 l (by omega) (by omega) (by omega)]
      have hz : x / 128 ^ (j + 1) = 0 := by rw [Nat.pow_succ, ← Nat.div_div_eq_div_mul]; rw [← hq] at hc ⊢; omega
      have := dg_enc x j hp
      rw [hz, hi_zero, List.nil_append] at this
      rw [this]
theorem pw_num (l : List Int) (b : Bool) (x : Nat) (hx : x ≤ 281474976710656) (hl : l.length + 10 ≤ LIM) : m_pack_Writer_Num l b (x : Int) = some (l ++ enc x, b) := by
  unfold m_pack_Writer_Num m_pack_Writer_Num_j1
  rw [if_neg (by simp), if_neg (by simp; omega)]
  exact pw_l1 x b l hx hl 9 0 (by omega) (by omega) (fun i h1 h2 => by omega)
theorem pw_bad (l : List Int) (b : Bool) (x : Int) (hx : x < 0 ∨ x > 281474976710656) : m_pack_Writer_Num l b x = some (l, true) := by
  unfold m_pack_Writer_Num m_pack_Writer_Num_j1
  rcases hx with hx | hx
  · rw [if_pos (by simpa using hx)]; rfl
  · rw [if_neg (by simp; omega), if_pos (by simpa using hx)]
theorem enc_len (n : Nat) (h : n ≤ 281474976710656) : (enc n).length ≤ 7 := by
  have := hi_len 6 (n / 128) (by omega)
  simp [enc]; omega
theorem enc_pos (n : Nat) : 0 < (enc n).length := by simp [enc]

/-! ### the document's -/
theorem put_l1 : ∀ (k n : Nat) (l : List Int), n < 128 ^ k → n ≤ 281474976710656 → l.length + k ≤ LIM → m_cantonref02_Put_l1 (k + 1) (n : Int) l = some (hi n ++ l)
  | k, 0, l, _, _, _ => by unfold m_cantonref02_Put_l1; rw [if_neg (by simp), hi_zero]; rfl
  | 0, n + 1, l, h, _, _ => by simp at h
  | k + 1, n + 1, l, h, h', hl => by
    unfold m_cantonref02_Put_l1
    rw [if_pos (by simp), ck_b (by simp; omega)]
    have e1 : IntKind.i64.wrap ((((n + 1 : Nat) : Int)).tdiv 128) = (((n + 1) / 128 : Nat) : Int) := by
      rw [Int.tdiv_eq_ediv_of_nonneg (by omega), w64 (by omega) (by omega)]; rfl
    have e2 : IntKind.u8.wrap ((IntKind.u8.wrap ((((n + 1 : Nat) : Int)).tmod 128)) + 128) = (((n + 1) % 128 : Nat) : Int) + 128 := by
      rw [Int.tmod_eq_emod_of_nonneg (by omega), IntWalk.u8_in (((n + 1 : Nat) : Int) % 128) (by omega), IntWalk.u8_in _ (by omega)]; omega
    rw [e1, e2, put_l1 k ((n + 1) / 128) _ (by rw [Nat.div_lt_iff_lt_mul (by omega)]; rw [Nat.pow_succ] at h; exact h) (by omega) (by simp; omega), hi_pos (n := n + 1) (by omega)]
    simp
theorem put_enc (x : Nat) (hx : x ≤ 281474976710656) : m_cantonref02_Put (x : Int) = some (enc x) := by
  unfold m_cantonref02_Put
  have e1 : IntKind.i64.wrap (((x : Int)).tdiv 128) = ((x / 128 : Nat) : Int) := by
    rw [Int.tdiv_eq_ediv_of_nonneg (by omega), w64 (by omega) (by omega)]; rfl
  have e2 : IntKind.u8.wrap (((x : Int)).tmod 128) = ((x % 128 : Nat) : Int) := by
    rw [Int.tmod_eq_emod_of_nonneg (by omega), IntWalk.u8_in _ (by omega)]; omega
  rw [e1, e2, put_l1 9 _ _ (by omega) (by omega) (by simp [LIM])]
  rfl
theorem rw_num (l : List Int) (b : Bool) (x : Int) (hl : l.length + 10 ≤ LIM) : m_cantonref02_Writer_Num l b x = m_pack_Writer_Num l b x := by
  by_cases hx : x < 0 ∨ x > 281474976710656
  · rw [pw_bad l b x hx]
    unfold m_cantonref02_Writer_Num m_cantonref02_Writer_Num_j1
    rcases hx with hx | hx
    · rw [if_pos (by simpa using hx)]; rfl
    · rw [if_neg (by simp; omega), if_pos (by simpa using hx)]
  · obtain ⟨n, rfl⟩ : ∃ n : Nat, x = n := ⟨x.toNat, by omega⟩
    have hn : n ≤ 281474976710656 := by omega
    have := enc_len n hn
    rw [pw_num l b n hn hl]
    unfold m_cantonref02_Writer_Num m_cantonref02_Writer_Num_j1
    rw [if_neg (by simp), if_neg (by simp; omega), put_enc n hn]
    simp only [Option.bind_some]
    rw [ck_b (by omega)]

/-! ### how a number is read -/
def Bs (l : List Int) : Prop := ∀ x ∈ l, 0 ≤ x ∧ x ≤ 255
def go (sh : Bool) (M : Int) : Nat → List Int → Nat → Int × List Int × Int
  | _, [], _ => (0, [], if sh then 21 else 3)
  | i, c :: cs, n => if i = 7 then (0, [], 3) else if c > 127 then go sh M (i + 1) cs (n * 128 + (c.toNat % 128)) else
    if ((n * 128 + c.toNat : Nat) : Int) > min M 281474976710656 then (0, [], 3) else (((n * 128 + c.toNat : Nat) : Int), cs, 0)
def rd (M : Int) (l : List Int) : Int × List Int × Int := if l.head? = some 128 then (0, [], 3) else go (decide (l.length < 7)) M 0 l 0
theorem pr_l1 (l : List Int) (hb : Bs l) (M : Int) (hlen : l.length ≤ 100000000000) : ∀ (k i n : Nat), i ≤ 7 → i + k = 9 → n < 128 ^ i → i ≤ l.length →
    m_pack_Reader_Num_l1 l M 0 k (n : Int) (i : Int) = some (go (decide (l.length < 7)) M i (l.drop i) n)
  | 0, i, n, h, h', _, _ => by omega
  | k + 1, i, n, h, h', hn, hil => by
    unfold m_pack_Reader_Num_l1
    by_cases hi : i < l.length
    · rw [if_pos (by simpa using hi), idx_lt hi, List.drop_eq_getElem_cons hi, go]
      simp only [Option.bind_some]
      by_cases h7 : i = 7
      · rw [if_pos (by simp [h7]), if_pos h7]; rfl
      · have hpw : 128 ^ i ≤ 128 ^ 6 := Nat.pow_le_pow_right (by omega) (by omega)
        have h50 : n < 2 ^ 42 := by omega
        have hc := hb l[i] (List.getElem_mem _)
        obtain ⟨c, hcc⟩ : ∃ c : Nat, l[i] = (c : Int) := ⟨l[i].toNat, by omega⟩
        rw [if_neg (by simpa using fun hh : (i : Int) = 7 => h7 (by omega)), if_neg h7, hcc]
        rw [hcc] at hc
        rw [shl7 n (by omega), and127 c (by omega), w64 (by omega) (by omega), or64 n _ (by omega) (Nat.mod_lt _ (by omega))]
        have e1 : IntKind.i64.wrap ((i : Int) + 1) = ((i + 1 : Nat) : Int) := by rw [w64 (by omega) (by omega)]; rfl
        rw [e1]
        by_cases hc7 : (c : Int) > 127
        · rw [if_pos (by simpa using hc7), if_pos hc7]
          rw [Int.toNat_natCast]
          refine pr_l1 l hb M hlen k (i + 1) _ (by omega) (by omega) ?_ (by omega)
          rw [Nat.pow_succ]
          omega
        · rw [if_neg (by simpa using hc7), if_neg hc7, Nat.mod_eq_of_lt (by omega)]
          simp only [Int.toNat_natCast]
          by_cases hm : ((n * 128 + c : Nat) : Int) > min M 281474976710656
          · rw [if_pos (by simpa using hm), if_pos hm]; rfl
          · rw [if_neg (by simpa using hm), if_neg hm, ck_b ⟨by omega, by omega⟩]
    · have : i = l.length := by omega
      subst this
      rw [if_neg (by simp), List.drop_length, go]
      by_cases h7 : l.length < 7
      · rw [if_pos (by simp; omega)]; simp [h7, m_pack_Reader_Num_j3]
      · rw [if_neg (by simp; omega)]; simp [h7, m_pack_Reader_Num_j3]
theorem pr_num (l : List Int) (hb : Bs l) (M : Int) (hlen : l.length ≤ 100000000000) : m_pack_Reader_Num l 0 M = some (rd M l) := by
  unfold m_pack_Reader_Num rd
  rw [if_neg (by simp)]
  have key := pr_l1 l hb M hlen 9 0 0 (by omega) (by omega) (by omega) (by omega)
  cases l with
  | nil => rw [if_neg (by simp)]; simpa [m_pack_Reader_Num_j2] using key
  | cons c cs =>
    rw [if_pos (by simp)]
    simp only [idx, List.head?_cons]
    by_cases hc : c = 128
    · subst hc; simp [m_pack_Reader_Num_j1]
    · simpa [hc, m_pack_Reader_Num_j2] using key
theorem pr_err (l : List Int) (e M : Int) (he : e ≠ 0) : m_pack_Reader_Num l e M = some (0, l, e) := by
  unfold m_pack_Reader_Num; rw [if_pos (by simpa using he)]
theorem rr_l1 (l : List Int) (hb : Bs l) (M : Int) (hlen : l.length ≤ 100000000000) (h128 : l.head? ≠ some 128) : ∀ (k i n : Nat), i ≤ 7 → i + k = 8 → n < 128 ^ i → i ≤ l.length →
    m_cantonref02_Reader_Num_l1 l 0 M k (n : Int) (i : Int) = some (go (decide (l.length < 7)) M i (l.drop i) n)
  | 0, i, n, h, h', _, _ => by omega
  | k + 1, i, n, h, h', hn, hil => by
    unfold m_cantonref02_Reader_Num_l1
    by_cases h7 : i = 7
    · subst h7
      rw [if_neg (by simp)]
      cases hd : l.drop 7 with
      | nil => 
        have : ¬ l.length < 7 := by omega
        simp [go, m_cantonref02_Reader_fail, this]
      | cons c cs => simp [go, m_cantonref02_Reader_fail]
    · rw [if_pos (by simp; omega)]
      by_cases hi : i < l.length
      · rw [if_neg (by simp; omega), idx_lt hi, List.drop_eq_getElem_cons hi, go]
        simp only [Option.bind_some]
        rw [if_neg h7]
        have hpw : 128 ^ i ≤ 128 ^ 6 := Nat.pow_le_pow_right (by omega) (by omega)
        have h50 : n < 2 ^ 42 := by omega
        have hc := hb l[i] (List.getElem_mem _)
        obtain ⟨c, hcc⟩ : ∃ c : Nat, l[i] = (c : Int) := ⟨l[i].toNat, by omega⟩
        have hj : ∀ b : Bool, b = false → m_cantonref02_Reader_Num_j1 (m_cantonref02_Reader_Num_l1 l 0 M k) l 0 (i : Int) (n : Int) l[i] M b =
            some (if l[i] > 127 then go (decide (l.length < 7)) M (i + 1) (l.drop (i + 1)) (n * 128 + (l[i].toNat % 128)) else
              if ((n * 128 + l[i].toNat : Nat) : Int) > min M 281474976710656 then (0, [], 3) else (((n * 128 + l[i].toNat : Nat) : Int), l.drop (i + 1), 0)) := by
          rintro _ rfl
          rw [hcc] at hc ⊢
          unfold m_cantonref02_Reader_Num_j1 m_cantonref02_Reader_Num_j2
          have e1 : IntKind.i64.wrap ((i : Int) + 1) = ((i + 1 : Nat) : Int) := by rw [w64 (by omega) (by omega)]; rfl
          have e2 : IntKind.i64.wrap ((IntKind.i64.wrap ((n : Int) * 128)) + (IntKind.i64.wrap ((c : Int).tmod 128))) = ((n * 128 + c % 128 : Nat) : Int) := by
            rw [Int.tmod_eq_emod_of_nonneg (by omega), w64 (n := (n : Int) * 128) (by omega) (by omega), w64 (n := (c : Int) % 128) (by omega) (by omega), w64 (by omega) (by omega)]; omega
          rw [e1, e2]
          simp only [Int.toNat_natCast]
          simp only [Bool.false_eq_true, if_false]
          by_cases hc7 : (c : Int) > 127
          · rw [if_neg (by simp; omega), if_pos hc7]
            refine rr_l1 l hb M hlen h128 k (i + 1) _ (by omega) (by omega) ?_ (by omega)
            rw [Nat.pow_succ]
            omega
          · rw [if_pos (by simp; omega), if_neg hc7, Nat.mod_eq_of_lt (by omega)]
            by_cases hm : ((n * 128 + c : Nat) : Int) > min M 281474976710656
            · rw [if_pos hm]
              by_cases hx : ((n * 128 + c : Nat) : Int) > 281474976710656
              · rw [if_pos (by simpa using hx)]; simp [m_cantonref02_Reader_fail]
              · rw [if_neg (by simpa using hx), if_pos (by simp; omega)]; simp [m_cantonref02_Reader_fail]
            · rw [if_neg hm, if_neg (by simp; omega), if_neg (by simp; omega), ck_b ⟨by omega, by omega⟩]
        by_cases h0 : i = 0
        · subst h0
          have hne : l[0] ≠ 128 := by
            intro hh
            apply h128
            rw [List.head?_eq_getElem?, List.getElem?_eq_getElem hi, hh]
          rw [if_pos (by simp), hj _ (by simpa using hne)]
        · rw [if_neg (by simp; omega), hj _ rfl]
      · have : i = l.length := by omega
        subst this
        rw [if_pos (by simp), List.drop_length, go]
        simp [m_cantonref02_Reader_fail, show l.length < 7 from by omega]
theorem rr_num (l : List Int) (hb : Bs l) (M : Int) (hlen : l.length ≤ 100000000000) : m_cantonref02_Reader_Num l 0 M = some (rd M l) := by
  unfold m_cantonref02_Reader_Num rd
  rw [if_neg (by simp)]
  by_cases h128 : l.head? = some 128
  · rw [if_pos h128]
    show m_cantonref02_Reader_Num_l1 l 0 M 8 0 0 = _
    unfold m_cantonref02_Reader_Num_l1
    cases l with
    | nil => simp at h128
    | cons c cs =>
      simp at h128
      subst h128
      simp [idx, m_cantonref02_Reader_Num_j1, m_cantonref02_Reader_fail]
  · rw [if_neg h128]
    exact rr_l1 l hb M hlen h128 8 0 0 (by omega) (by omega) (by omega) (by omega)
theorem rr_err (l : List Int) (e M : Int) (he : e ≠ 0) : m_cantonref02_Reader_Num l e M = some (0, l, e) := by
  unfold m_cantonref02_Reader_Num; rw [if_pos (by simpa using he)]
end Go.Cb
