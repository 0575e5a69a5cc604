/- Nodes, plainly: parents, last parts, joins, numbers. -/
import Derived.Test.YtgdfoajophpblaaGreatDoorQ2px
import Derived.Test.YtgdfoajophpblaaGreatDoorKpx1
import Derived.Test.YtgdfoajophpblaaGreatDoorApx1
set_option linter.unusedVariables false
set_option linter.unusedSimpArgs false
namespace Go.Cb
open Go.Proofs Go.RowKit

def parentS (p : List UInt8) : Option (List UInt8) := match parts p with
  | some ps => if ps = [] then none else some (joinP ps.dropLast)
  | none => none
def os2 (o : Option (List UInt8)) : ByteArray × Bool := match o with
  | some q => (mk q, true)
  | none => (mk [], false)
theorem cat_app (ps qs : List (List UInt8)) : catP (ps ++ qs) = catP ps ++ catP qs := by simp [catP]
theorem parts_len {p : List UInt8} {ps : List (List UInt8)} (h : parts p = some ps) : p.length ≤ 78 := by
  obtain ⟨rfl, h1, h2⟩ := (parts_iff p ps).1 h
  have key : ∀ qs : List (List UInt8), qs.all partOk = true → (catP qs).length ≤ 13 * qs.length := by
    intro qs
    induction qs with
    | nil => intro _; simp [catP]
    | cons t ts ih =>
      intro h
      simp at h
      have h3 : t.length ≤ 12 := by have := h.1; simp [partOk] at this; exact this.1.2
      have h4 := ih (by simpa using h.2)
      show (47 :: (t ++ catP ts)).length ≤ _
      simp; omega
  unfold joinP
  split
  · simp
  · have := key ps h1; omega
theorem last_l1 (s : ByteArray) (a b : List UInt8) (hs : bl s = a ++ 47 :: b) (hb : 47 ∉ b) (hl : (bl s).length ≤ 1000) : ∀ (k i : Nat), i < (bl s).length → a.length ≤ i → i + 1 ≤ k → m_internal_bytealg_LastIndexByteString_l1 s k 47 (i : Int) = some (a.length : Int)
  | 0, i, _, _, h => by omega
  | k + 1, i, hi, hai, h => by
    unfold m_internal_bytealg_LastIndexByteString_l1
    rw [if_pos (by simp), idx_bl hi]
    simp only [Option.bind_some]
    by_cases e : i = a.length
    · have : (bl s)[i] = 47 := by subst e; simp [hs]
      rw [this, if_pos (by decide), e]
    · have hne : (bl s)[i] ≠ 47 := by
        have h2 : (bl s)[i]? = b[i - a.length - 1]? := by
          rw [hs, List.getElem?_append_right hai, show i - a.length = (i - a.length - 1) + 1 from by omega, List.getElem?_cons_succ]
          rfl
        rw [List.getElem?_eq_getElem hi] at h2
        intro e2
        rw [e2] at h2
        exact hb (List.mem_of_getElem? h2.symm)
      rw [if_neg (by have := c47 hne; simp only [beq_iff_eq]; omega), show IntKind.i64.wrap ((i : Int) - 1) = ((i - 1 : Nat) : Int) from by rw [w64 (by omega) (by omega)]; omega]
      exact last_l1 s a b hs hb hl k (i - 1) (by omega) (by omega) (by omega)
theorem cut_eq (s : ByteArray) : m_path_cut s = some (match parts (bl s) with
    | some ps => if ps = [] then (mk [], mk [], false) else (mk (joinP ps.dropLast), mk (ps.getLast?.getD []), true)
    | none => (mk [], mk [], false)) := by
  unfold m_path_cut m_path_Right
  rw [Split_eq]
  simp only [Option.bind_some]
  unfold spl
  cases hp : parts (bl s) with
  | none => simp only [Bool.not_false, if_true]; rfl
  | some ps =>
    simp only [Bool.not_true, Bool.false_eq_true, if_false]
    obtain ⟨h0, h1, h2⟩ := (parts_iff _ ps).1 hp
    rw [sEq_bl, sl47]
    rcases List.eq_nil_or_concat ps with rfl | ⟨qs, t, rfl⟩
    · have : bl s = [47] := h0
      rw [this]; rfl
    · rw [List.concat_eq_append] at *
      have ht : partOk t = true := by simp at h1; exact h1.2
      have hb : bl s = catP qs ++ 47 :: t := by rw [h0]; unfold joinP; rw [if_neg (by simp), cat_app]; simp [catP]
      have hne : bl s ≠ [47] := by
        rw [hb]
        intro e
        have := congrArg List.length e
        have := List.length_pos_iff.2 (part_ne ht)
        simp at *
        omega
      have hl := parts_len hp
      rw [decide_eq_false hne]
      unfold m_path_cut_j1 m_strings_LastIndexByte m_internal_bytealg_LastIndexByteString
      have hsz := bl_size s
      have hlen : (bl s).length = (catP qs).length + t.length + 1 := by rw [hb]; simp; omega
      have e1 : IntKind.i64.wrap ((s.size : Int) - 1) = (((bl s).length - 1 : Nat) : Int) := by rw [hsz, w64 (by omega) (by omega)]; omega
      rw [e1, last_l1 s (catP qs) t hb (lett_ne ht) (by omega) _ _ (by omega) (by omega) (by omega)]
      simp only [Option.bind_some, Bool.false_eq_true, if_false]
      have e2 : IntKind.i64.wrap (((catP qs).length : Int) + 1) = (((catP qs).length + 1 : Nat) : Int) := by rw [w64 (by omega) (by omega)]; omega
      rw [e2, ck_b (by omega), ck_b (by omega)]
      rw [if_neg (by simp)]
      congr 1
      have e3 : (s.extract 0 (max ((catP qs).length : Int) 1).toNat) = mk (joinP (qs ++ [t]).dropLast) := by
        apply bl_inj
        rw [bl_ext, bl_mk, hb, List.drop_zero, List.dropLast_concat]
        unfold joinP
        cases qs with
        | nil => rfl
        | cons q qs =>
          rw [if_neg (by simp)]
          have : (max ((catP (q :: qs)).length : Int) 1).toNat = (catP (q :: qs)).length := by
            have : 1 ≤ (catP (q :: qs)).length := by simp [catP]
            omega
          rw [this, List.take_left]
      have e4 : (s.extract (((catP qs).length + 1 : Nat) : Int).toNat s.size) = mk ((qs ++ [t]).getLast?.getD []) := by
        apply bl_inj
        rw [bl_ext, bl_mk, hsz, List.take_length, hb, Int.toNat_natCast, show catP qs ++ 47 :: t = (catP qs ++ [47]) ++ t from by simp, show (catP qs).length + 1 = (catP qs ++ [47]).length from by simp, List.drop_left]
        simp
      rw [e3, e4]
theorem Parent_eq (s : ByteArray) : m_path_Parent s = some (os2 (parentS (bl s))) := by
  unfold m_path_Parent parentS
  rw [cut_eq]
  cases parts (bl s) with
  | none => rfl
  | some ps =>
    simp only [Option.bind_some]
    by_cases h : ps = []
    · rw [if_pos h, if_pos h]; rfl
    · rw [if_neg h, if_neg h]; rfl
/-! ### numbers -/
/-! ### the document's -/
theorem path_l1 (l : List ByteArray) (hl : l.length ≤ 6) (hp : ∀ x ∈ l, (bl x).length ≤ 12) : ∀ (k i : Nat) (s : ByteArray), i ≤ l.length → l.length + 1 ≤ i + k → (bl s).length ≤ 13 * i → m_cantonref01_path_l1 l k s (i : Int) = some (mk (bl s ++ catP ((l.drop i).map bl)))
  | 0, i, s, h0, h, _ => by omega
  | k + 1, i, s, h0, h, hs => by
    unfold m_cantonref01_path_l1
    by_cases hi : i < l.length
    · have z1 := bl_size s
      have z2 : (ByteArray.mk #[47]).size = 1 := rfl
      have z3 : (s ++ ByteArray.mk #[47]).size = (bl s).length + 1 := by rw [bl_size, bl_app, sl47]; simp
      have z4 := bl_size l[i]
      have z5 := hp l[i] (List.getElem_mem _)
      rw [if_pos (by simpa using hi), ck_b (by omega), idx_lt hi]
      simp only [Option.bind_some]
      rw [ck_b (by omega), show IntKind.i64.wrap ((i : Int) + 1) = ((i + 1 : Nat) : Int) from by rw [w64 (by omega) (by omega)]; omega]
      rw [path_l1 l hl hp k (i + 1) _ (by omega) (by omega) (by rw [bl_app, bl_app, sl47]; simp; omega), bl_app, bl_app, sl47, List.drop_eq_getElem_cons hi, List.map_cons]
      simp only [catP, List.flatMap_cons, List.append_assoc, List.singleton_append, List.cons_append, List.nil_append]
    · rw [if_neg (by simpa using hi), List.drop_eq_nil_of_le (by omega)]
      simp [catP, mk_bl]
theorem rpath_eq (l : List (List UInt8)) (hl : l.length ≤ 6) (hp : ∀ x ∈ l, x.length ≤ 12) : m_cantonref01_path (l.map mk) = some (mk (joinP l)) := by
  unfold m_cantonref01_path joinP
  by_cases h : l = []
  · subst h; rfl
  · have hlen : l.length ≠ 0 := fun e => h (List.length_eq_zero_iff.1 e)
    rw [if_neg (by simp; exact h), if_neg h]
    have := path_l1 (l.map mk) (by simpa using hl) (by simpa [bl_mk] using hp) ((((l.map mk).length : Int) - 0 : Int).toNat + 1) 0 (ByteArray.mk #[]) (by omega) (by omega) (by simp [emp])
    refine this.trans ?_
    rw [emp, List.drop_zero, List.map_map]
    congr 2
    simp
    rw [show bl ∘ mk = id from by funext x; rfl, List.map_id]
theorem part12 {l : List UInt8} (h : partOk l = true) : l.length ≤ 12 := by simp [partOk] at h; exact h.1.2
theorem rParent_eq (s : ByteArray) (hs : (bl s).length ≤ 100000000) : m_cantonref01_Parent s = some (os2 (parentS (bl s))) := by
  unfold m_cantonref01_Parent m_cantonref01_Parent_j1 parentS
  rw [rSplit_eq s hs]
  simp only [Option.bind_some]
  unfold spl
  cases hp : parts (bl s) with
  | none => simp only [Bool.not_false, if_true]; rfl
  | some ps =>
    obtain ⟨h0, h1, h2⟩ := (parts_iff _ ps).1 hp
    simp only [Bool.not_true, Bool.false_eq_true, if_false, List.length_map]
    by_cases h : ps = []
    · subst h; rfl
    · have hlen : ps.length ≠ 0 := fun e => h (List.length_eq_zero_iff.1 e)
      rw [if_neg (by simp; exact h), if_neg h, show IntKind.i64.wrap ((ps.length : Int) - 1) = ((ps.length - 1 : Nat) : Int) from by rw [w64 (by omega) (by omega)]; omega, ck_b (by omega)]
      have h1' : ∀ q ∈ ps, partOk q = true := by simpa using h1
      rw [Int.toNat_natCast, ← List.map_take, ← List.dropLast_eq_take, rpath_eq _ (by rw [List.length_dropLast]; omega) fun x hx => part12 (h1' x (List.dropLast_subset _ hx))]
      rfl
end Go.Cb
