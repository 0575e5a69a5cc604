/- Nodes, plainly: what a path is, to the program and to the document. -/
import Derived.Test.YtgdfoajophpblaaGreatDoorQ1px
import Derived.Test.YtgdfoajophpblaaGreatDoorKpx1
set_option linter.unusedVariables false
set_option linter.unusedSimpArgs false
namespace Go.Cb
open Go.Proofs Go.RowKit

def toks : List UInt8 → List (List UInt8)
  | [] => [[]]
  | c :: r => if c = 47 then [] :: toks r else (c :: (toks r).head!) :: (toks r).tail
theorem c47 {c : UInt8} (h : c ≠ 47) : c.toNat ≠ 47 := fun e => h (UInt8.toNat_inj.1 e)
theorem toks_47 (r : List UInt8) : toks (47 :: r) = [] :: toks r := by rw [toks, if_pos rfl]
theorem toks_c {c : UInt8} (h : c ≠ 47) (r : List UInt8) : toks (c :: r) = (c :: (toks r).head!) :: (toks r).tail := by rw [toks, if_neg h]
theorem toks_ne (l : List UInt8) : toks l ≠ [] := by
  cases l with
  | nil => simp [toks]
  | cons c r => unfold toks; split <;> simp
/-- what lies ahead of the first '/', what lies behind. -/
theorem toks_noslash : ∀ (l : List UInt8), 47 ∉ l → toks l = [l]
  | [], _ => rfl
  | c :: r, h => by
    simp at h
    rw [toks_c (fun e => h.1 e.symm), toks_noslash r h.2]
    rfl
theorem toks_app : ∀ (a b : List UInt8), 47 ∉ a → toks (a ++ 47 :: b) = a :: toks b
  | [], b, _ => toks_47 b
  | c :: r, b, h => by
    simp at h
    show toks (c :: (r ++ 47 :: b)) = _
    rw [toks_c (fun e => h.1 e.symm), toks_app r b h.2]
    rfl
theorem cutSlash (l : List UInt8) : 47 ∉ l ∨ ∃ a b, l = a ++ 47 :: b ∧ 47 ∉ a := by
  induction l with
  | nil => exact .inl (by simp)
  | cons c r ih =>
    by_cases hc : c = 47
    · exact .inr ⟨[], r, by rw [hc]; rfl, by simp⟩
    · rcases ih with h | ⟨a, b, rfl, h⟩
      · exact .inl (by simp; exact ⟨fun e => hc e.symm, h⟩)
      · exact .inr ⟨c :: a, b, rfl, by simp; exact ⟨fun e => hc e.symm, h⟩⟩
def catP (ps : List (List UInt8)) : List UInt8 := ps.flatMap (47 :: ·)
def joinP (ps : List (List UInt8)) : List UInt8 := if ps = [] then [47] else catP ps
theorem lett_ne {l : List UInt8} (h : partOk l = true) : 47 ∉ l := by
  intro hm
  unfold partOk at h
  simp at h
  have := h.2 47 hm
  simp [lett] at this
theorem part_ne {l : List UInt8} (h : partOk l = true) : l ≠ [] := by
  rintro rfl
  simp [partOk] at h
theorem toks_cat : ∀ (a : List UInt8) (ps : List (List UInt8)), 47 ∉ a → (∀ p ∈ ps, 47 ∉ p) → toks (a ++ catP ps) = a :: ps
  | a, [], h, _ => by simp [catP, toks_noslash a h]
  | a, p :: ps, h, hp => by
    show toks (a ++ (47 :: (p ++ catP ps))) = _
    rw [toks_app a _ h, toks_cat p ps (hp p (by simp)) fun q hq => hp q (by simp [hq])]
theorem cat_toks : ∀ (n : Nat) (l : List UInt8), l.length ≤ n → catP (toks l) = 47 :: l
  | n, l, hn => by
    rcases cutSlash l with h | ⟨a, b, rfl, h⟩
    · rw [toks_noslash l h]; simp [catP]
    · simp at hn
      rw [toks_app a b h]
      cases n with
      | zero => omega
      | succ n =>
        have := cat_toks n b (by omega)
        show (47 :: a) ++ catP (toks b) = _
        rw [this]; simp

def parts : List UInt8 → Option (List (List UInt8))
  | [] => none
  | c :: r => if c = 47 then (if r = [] then some [] else if (toks r).all partOk = true ∧ (toks r).length ≤ 6 then some (toks r) else none) else none
theorem parts_iff (p : List UInt8) (ps : List (List UInt8)) : parts p = some ps ↔ p = joinP ps ∧ ps.all partOk = true ∧ ps.length ≤ 6 := by
  constructor
  · intro h
    cases p with
    | nil => cases h
    | cons c r =>
      rw [parts] at h
      by_cases hc : c = 47
      · subst hc
        rw [if_pos rfl] at h
        by_cases hr : r = []
        · rw [if_pos hr] at h
          cases h
          subst hr
          exact ⟨rfl, rfl, by simp⟩
        · rw [if_neg hr] at h
          by_cases h2 : (toks r).all partOk = true ∧ (toks r).length ≤ 6
          · rw [if_pos h2] at h
            cases h
            refine ⟨?_, h2.1, h2.2⟩
            unfold joinP
            rw [if_neg (toks_ne r), cat_toks _ r (Nat.le_refl _)]
          · rw [if_neg h2] at h; cases h
      · rw [if_neg hc] at h; cases h
  · rintro ⟨rfl, h1, h2⟩
    cases ps with
    | nil => rfl
    | cons t ts =>
      have h1' : ∀ q ∈ t :: ts, partOk q = true := by simpa using h1
      have ht : toks (t ++ catP ts) = t :: ts := toks_cat t ts (lett_ne (h1' t (by simp))) fun q hq => lett_ne (h1' q (by simp [hq]))
      have hne : t ++ catP ts ≠ [] := by
        intro e
        exact part_ne (h1' t (by simp)) (List.append_eq_nil_iff.1 e).1
      rw [show joinP (t :: ts) = 47 :: (t ++ catP ts) from rfl, parts, if_pos rfl, if_neg hne, ht, if_pos ⟨h1, h2⟩]
def spl (p : ByteArray) : List ByteArray × Bool := match parts (bl p) with
  | some ps => (ps.map mk, true)
  | none => ([], false)

theorem cutPre (s : ByteArray) : m_strings_CutPrefix s (ByteArray.mk #[47]) = some (match bl s with | [] => (s, false) | c :: r => if c = 47 then (mk r, true) else (s, false)) := by
  unfold m_strings_CutPrefix m_internal_stringslite_CutPrefix m_internal_stringslite_HasPrefix
  have e1 : ((ByteArray.mk #[47]).size : Int) = 1 := rfl
  rw [e1]
  have hs := bl_size s
  cases hb : bl s with
  | nil =>
    rw [hb] at hs
    rw [if_neg (by rw [hs]; simp)]
    rfl
  | cons c r =>
    rw [hb] at hs
    simp at hs
    rw [if_pos (by rw [hs]; simp only [decide_eq_true_eq]; omega), ck_b (by rw [hs]; omega)]
    have e2 : bl (s.extract 0 (1 : Int).toNat) = [c] := by rw [bl_ext, hb]; rfl
    simp only [Option.bind_some]
    rw [sEq_bl, e2, sl47]
    by_cases hc : c = 47
    · subst hc
      rw [if_neg (by simp), ck_b (by rw [hs]; omega)]
      have e3 : s.extract (1 : Int).toNat s.size = mk r := by
        apply bl_inj
        rw [bl_ext, hb, bl_mk, hs]
        simp
      simp only [Option.bind_some, e3]
      rfl
    · rw [if_pos (by simp; exact hc)]
      simp only [Option.bind_some]
      rw [if_neg hc]
theorem ixB_none {s : ByteArray} (h : 47 ∉ bl s) : m_strings_IndexByte s 47 = some (-1) := by
  show some (ixB s 47) = _
  congr 1
  unfold ixB
  have : (List.range s.size).find? (fun i => s[i]! == (47 : Int).toNat.toUInt8) = none := by
    rw [List.find?_eq_none]
    intro i hi
    simp only [List.mem_range] at hi
    intro hx
    apply h
    have hi' : i < (bl s).length := by rw [← bl_size]; exact hi
    have hx : s[i]! = 47 := by simpa using hx
    rw [getElem!_pos s i hi] at hx
    have : (bl s)[i] = 47 := hx
    rw [← this]
    exact List.getElem_mem _
  rw [this]
theorem ixB_some {s : ByteArray} {a b : List UInt8} (hs : bl s = a ++ 47 :: b) (h : 47 ∉ a) : m_strings_IndexByte s 47 = some (a.length : Int) := by
  show some (ixB s 47) = _
  congr 1
  unfold ixB
  have hl : a.length < s.size := by rw [bl_size, hs]; simp
  have hat : ∀ i (hi : i < s.size), s[i]! = (a ++ 47 :: b)[i]'(by rw [← hs, ← bl_size]; exact hi) := fun i hi => by
    rw [getElem!_pos s i hi]
    have : (bl s)[i]'(by rw [← bl_size]; exact hi) = (a ++ 47 :: b)[i]'(by rw [← hs, ← bl_size]; exact hi) := by simp only [hs]
    exact this
  have : (List.range s.size).find? (fun i => s[i]! == (47 : Int).toNat.toUInt8) = some a.length := by
    rw [List.find?_range_eq_some]
    refine ⟨?_, List.mem_range.2 hl, fun j hj => ?_⟩
    · rw [hat _ hl]; simp
    · rw [hat _ (by omega), List.getElem_append_left hj]
      simp
      intro e
      exact h (e ▸ List.getElem_mem _)
  rw [this]

theorem Split_l1 : ∀ (k : Nat) (s : ByteArray) (acc : List ByteArray), acc.length ≤ 6 → (bl s).length + 1 ≤ k → m_path_Split_l1 k s acc = some (match bl s with
    | [] => if acc = [] then ([], false) else (acc, true)
    | c :: r => if c = 47 then (if (toks r).all partOk = true ∧ acc.length + (toks r).length ≤ 6 then (acc ++ (toks r).map mk, true) else ([], false)) else ([], false))
  | 0, s, acc, _, h => by omega
  | k + 1, s, acc, ha, h => by
    unfold m_path_Split_l1
    rw [sEq_bl, emp]
    cases hb : bl s with
    | nil =>
      rw [if_neg (by simp)]
      cases acc with
      | nil => rfl
      | cons x xs => rw [if_pos (by simp), if_neg (by simp)]
    | cons c r =>
      rw [if_pos (by simp), cutPre s, hb]
      simp only [Option.bind_some]
      by_cases hc : c = 47
      · subst hc
        simp only [if_true, Bool.not_true, Bool.false_eq_true, if_false]
        have htl : 1 ≤ (toks r).length := by have := toks_ne r; cases h : toks r with | nil => exact absurd h this | cons _ _ => simp
        by_cases h6 : acc.length = 6
        · rw [if_pos (by simp; omega), if_neg (by rintro ⟨_, h⟩; omega)]; rfl
        · rw [if_neg (by simp; omega)]
          have hrs : (mk r).size = r.length := by rw [bl_size, bl_mk]
          have hlen : (bl s).length = r.length + 1 := by rw [hb]; simp
          rcases cutSlash r with hns | ⟨a, b, rfl, hns⟩
          · rw [ixB_none (by rw [bl_mk]; exact hns)]
            simp only [Option.bind_some]
            rw [if_pos (by decide)]
            unfold m_path_Split_j2
            rw [hrs, ck_b (by omega), part_eq, bl_ext, bl_mk]
            simp only [Option.bind_some, Int.toNat_natCast, List.take_length, List.drop_zero]
            rw [toks_noslash r hns]
            cases hp : partOk r
            · simp [hp, m_path_Split_j1]
            · rw [if_neg (by simp), ck_b (by omega), ck_b (by simp [LIM]; omega), ck_b (by omega)]
              have e1 : bl ((mk r).extract r.length r.length) = [] := by rw [bl_ext, bl_mk]; simp
              rw [Split_l1 k _ _ (by simp; omega) (by rw [e1]; simp; omega), e1]
              have e2 : (mk r).extract 0 r.length = mk r := by apply bl_inj; rw [bl_ext, bl_mk]; simp
              simp only []
              rw [if_neg (by simp), if_pos ⟨by simp [hp], by simp; omega⟩, e2]
              rfl
          · rw [ixB_some (s := mk (a ++ 47 :: b)) (a := a) (b := b) (bl_mk _) hns]
            simp only [Option.bind_some]
            rw [if_neg (by simp)]
            unfold m_path_Split_j2
            have hal : (a ++ 47 :: b).length = a.length + b.length + 1 := by simp; omega
            rw [hrs, ck_b (by omega), part_eq, bl_ext, bl_mk]
            simp only [Option.bind_some, Int.toNat_natCast, List.drop_zero]
            rw [List.take_left, toks_app a b hns]
            cases hp : partOk a
            · simp [hp, m_path_Split_j1]
            · rw [if_neg (by simp), ck_b (by omega), ck_b (by simp [LIM]; omega), ck_b (by omega)]
              have e1 : bl ((mk (a ++ 47 :: b)).extract a.length (a ++ 47 :: b).length) = 47 :: b := by rw [bl_ext, bl_mk, List.take_length, List.drop_left]
              rw [Split_l1 k _ _ (by simp; omega) (by rw [e1]; simp; omega), e1]
              have e2 : (mk (a ++ 47 :: b)).extract 0 a.length = mk a := by apply bl_inj; rw [bl_ext, bl_mk, List.take_left, bl_mk]; rfl
              simp only [if_true, e2, List.length_append, List.length_cons, List.length_nil, List.all_cons, hp, Bool.true_and, List.map_cons]
              by_cases hq : (toks b).all partOk = true ∧ acc.length + 1 + (toks b).length ≤ 6
              · rw [if_pos (by exact hq), if_pos ⟨hq.1, by omega⟩]; simp
              · rw [if_neg (by exact hq), if_neg (fun h => hq ⟨h.1, by omega⟩)]
      · simp only [if_neg hc]
        rw [if_pos (by simp)]
        rfl
theorem Split_eq (s : ByteArray) : m_path_Split s = some (spl s) := by
  unfold m_path_Split
  rw [sEq_bl, sl47]
  by_cases h1 : bl s = [47]
  · rw [if_pos (by simp [h1])]
    unfold spl
    rw [h1]; rfl
  · rw [if_neg (by simp [h1]), Split_l1 _ s [] (by simp) (by rw [bl_size]; omega)]
    unfold spl
    cases hb : bl s with
    | nil => rfl
    | cons c r =>
      simp only [parts, List.length_nil, Nat.zero_add, List.nil_append]
      by_cases hc : c = 47
      · subst hc
        have hr : r ≠ [] := by rintro rfl; exact h1 hb
        rw [if_pos rfl, if_pos rfl, if_neg hr]
        by_cases hq : (toks r).all partOk = true ∧ (toks r).length ≤ 6
        · rw [if_pos hq, if_pos hq]
        · rw [if_neg hq, if_neg hq]
      · rw [if_neg hc, if_neg hc]
theorem rSplit_l1 (s : ByteArray) (hs : (bl s).length ≤ 100000000) : ∀ (k : Nat) (acc : List ByteArray) (f i : Nat) (a b : List UInt8), acc.length ≤ 6 → f ≤ i → i ≤ (bl s).length → (bl s).length + 2 ≤ i + k → (bl s).drop f = a ++ b → a.length = i - f → 47 ∉ a →
    m_cantonref01_Split_l1 s k acc (f : Int) (i : Int) = some (if (toks (a ++ b)).all partOk = true ∧ acc.length + (toks (a ++ b)).length ≤ 6 then (acc ++ (toks (a ++ b)).map mk, true) else ([], false))
  | 0, acc, f, i, a, b, _, _, _, h, _, _, _ => by omega
  | k + 1, acc, f, i, a, b, ha, hfi, hil, h, hd, hal, hns => by
    unfold m_cantonref01_Split_l1
    rw [if_pos (by rw [bl_size]; simp only [decide_eq_true_eq]; omega)]
    have hbd : (bl s).drop i = b := by
      have : (bl s).drop i = ((bl s).drop f).drop (i - f) := by rw [List.drop_drop]; congr 1; omega
      rw [this, hd, ← hal, List.drop_left]
    have e1 : IntKind.i64.wrap ((i : Int) + 1) = ((i + 1 : Nat) : Int) := by rw [w64 (by omega) (by omega)]; omega
    have hpart : bl (s.extract f i) = a := by
      rw [bl_ext, List.drop_take, hd, ← hal, List.take_left]
    have hex : s.extract f i = mk a := by apply bl_inj; rw [hpart, bl_mk]
    -- at the end of a part
    have fin : ∀ (b' : List UInt8), (b = 47 :: b' ∨ (b = [] ∧ i = (bl s).length)) → m_cantonref01_Split_j3 (m_cantonref01_Split_l1 s k) (i : Int) (f : Int) s acc = some (if (toks (a ++ b)).all partOk = true ∧ acc.length + (toks (a ++ b)).length ≤ 6 then (acc ++ (toks (a ++ b)).map mk, true) else ([], false)) := by
      intro b' hb
      unfold m_cantonref01_Split_j3 m_cantonref01_Split_j4 m_cantonref01_Split_j2
      have c1 : (0 : Int) ≤ (f : Int) ∧ (f : Int) ≤ (i : Int) ∧ (i : Int) ≤ (s.size : Int) := by rw [bl_size]; omega
      rw [ck_b c1]
      simp only [Int.toNat_natCast]
      rw [rpart_eq _ (by rw [hpart]; omega), hpart]
      simp only [Option.bind_some]
      have htk : toks (a ++ b) = a :: (if b = [] then [] else toks b') ∧ (b = [] → i = (bl s).length) := by
        rcases hb with rfl | ⟨rfl, h2⟩
        · rw [toks_app a b' hns, if_neg (by simp)]; exact ⟨rfl, fun h => by cases h⟩
        · rw [List.append_nil, toks_noslash a hns, if_pos rfl]; exact ⟨rfl, fun _ => h2⟩
      cases hp : partOk a
      · rw [if_pos (by simp), if_pos trivial, if_neg]
        rintro ⟨h, _⟩
        rw [htk.1] at h
        simp [hp] at h
      · rw [if_neg (by simp)]
        by_cases h6 : acc.length = 6
        · rw [if_pos (by simp; omega), if_neg]
          rintro ⟨_, h⟩
          rw [htk.1] at h
          simp at h; omega
        · rw [if_neg (by simp; omega), ck_b c1, ck_b (by simp [LIM]; omega), e1]
          rw [hex]
          rcases hb with rfl | ⟨rfl, h2⟩
          · have hil2 : i < (bl s).length := by
              have := congrArg List.length hbd
              simp at this; omega
            have hd2 : (bl s).drop (i + 1) = [] ++ b' := by
              rw [← List.drop_drop, hbd]; rfl
            rw [rSplit_l1 s hs k (acc ++ [mk a]) (i + 1) (i + 1) [] b' (by simp; omega) (Nat.le_refl _) (by omega) (by omega) hd2 (by simp) (by simp)]
            rw [toks_app a b' hns]
            simp only [List.nil_append, List.length_append, List.length_cons, List.length_nil, List.all_cons, hp, Bool.true_and, List.map_cons]
            by_cases hq : (toks b').all partOk = true ∧ acc.length + 1 + (toks b').length ≤ 6
            · rw [if_pos (by exact hq), if_pos ⟨hq.1, by omega⟩]; simp
            · rw [if_neg (by exact hq), if_neg (fun h => hq ⟨h.1, by omega⟩)]
          · rw [htk.1, if_pos rfl, if_pos ⟨by simp [hp], by simp; omega⟩]
            cases k with
            | zero => omega
            | succ k =>
              unfold m_cantonref01_Split_l1
              rw [if_neg (by rw [bl_size]; simp only [decide_eq_true_eq]; omega)]
              rfl
    by_cases hi : i < (bl s).length
    · rw [if_pos (by rw [bl_size]; simp only [decide_eq_true_eq]; omega), idx_bl hi]
      simp only [Option.bind_some]
      have hb : b = (bl s)[i] :: (bl s).drop (i + 1) := by rw [← hbd]; exact List.drop_eq_getElem_cons hi
      generalize (bl s)[i] = c at hb
      by_cases hc : c = 47
      · subst hc
        rw [if_neg (by decide)]
        exact fin _ (.inl hb)
      · rw [if_pos (by have := c47 hc; simp only [bne_iff_ne, ne_eq]; omega)]
        unfold m_cantonref01_Split_j2
        rw [e1, rSplit_l1 s hs k acc f (i + 1) (a ++ [c]) ((bl s).drop (i + 1)) ha (by omega) (by omega) (by omega) (by rw [hd, hb]; simp) (by simp; omega) (by simp; exact ⟨hns, fun e => hc e.symm⟩)]
        rw [hb]
        simp only [List.append_assoc, List.singleton_append]
    · rw [if_neg (by rw [bl_size]; simp only [decide_eq_true_eq]; omega)]
      have hb : b = [] := by rw [← hbd, List.drop_eq_nil_of_le (by omega)]
      exact fin [] (.inr ⟨hb, by omega⟩)
theorem rSplit_eq (s : ByteArray) (hs : (bl s).length ≤ 100000000) : m_cantonref01_Split s = some (spl s) := by
  unfold m_cantonref01_Split m_cantonref01_Split_j1
  rw [sEq_bl, sEq_bl, sl47, emp]
  by_cases h1 : bl s = [47]
  · rw [if_pos (by simp [h1])]
    unfold spl
    rw [h1]; rfl
  · rw [if_neg (by simp [h1])]
    unfold spl
    cases hb : bl s with
    | nil => rw [if_pos (by simp)]; rfl
    | cons c r =>
      have hl : (bl s).length = r.length + 1 := by rw [hb]; simp
      rw [if_neg (by simp), show (0 : Int) = ((0 : Nat) : Int) from rfl, idx_b (x := c) (by rw [dl, hb]; rfl)]
      simp only [parts]
      by_cases hc : c = 47
      · subst hc
        have hr : r ≠ [] := by rintro rfl; exact h1 hb
        rw [if_neg (by decide), if_pos rfl, if_neg hr]
        have := rSplit_l1 s hs (((s.size : Int) - 1 : Int).toNat + 2) [] 1 1 [] r (by simp) (Nat.le_refl _) (by rw [hl]; omega) (by have := bl_size s; omega) (by rw [hb]; rfl) (by simp) (by simp)
        rw [show (1 : Int) = ((1 : Nat) : Int) from rfl]
        refine this.trans ?_
        simp only [List.nil_append, List.length_nil, Nat.zero_add]
        by_cases hq : (toks r).all partOk = true ∧ (toks r).length ≤ 6
        · rw [if_pos hq, if_pos hq]
        · rw [if_neg hq, if_neg hq]
      · have hb : ((c.toNat : Int) != 47) = true := by have := c47 hc; simp only [bne_iff_ne, ne_eq]; omega
        rw [hb, if_pos rfl, if_neg hc]
end Go.Cb
