/- Things that are written and read: codecs. -/
import Derived.Test.YtlocfgonplkcoaaL2m
set_option linter.unusedVariables false
set_option linter.unusedSimpArgs false
namespace Go.Cb
open Go.RowKit
structure Good (l : List Int) : Prop where
  b : Bs l
  n : l.length ≤ 100000000000
structure Codec (α : Type) where
  P : List Int → Int → α × List Int × Int
  W : α → List Int
  bad : α → Bool
  err : ∀ l e, e ≠ 0 → (P l e).2 = (l, e)
  good : ∀ {l} e, Good l → Good (P l e).2.1
  bsW : ∀ x, Bs (W x)
  pos : ∀ x, bad x = false → 1 ≤ (W x).length
  fwd : ∀ x cs, bad x = false → (W x).length ≤ 100000000000 → P (W x ++ cs) 0 = (x, cs, 0)
  bwd : ∀ l, Bs l → (P l 0).2.2 = 0 → l = W (P l 0).1 ++ (P l 0).2.1 ∧ bad (P l 0).1 = false

def encN (x : Int) : List Int := if 0 ≤ x ∧ x ≤ 281474976710656 then enc x.toNat else []
def badN (x : Int) : Bool := !decide (0 ≤ x ∧ x ≤ 281474976710656)
theorem encN_len (x : Int) : (encN x).length ≤ 7 := by
  unfold encN
  split
  · exact enc_len _ (by omega)
  · simp
theorem bs_encN (x : Int) : Bs (encN x) := by
  unfold encN
  split
  · exact bs_enc _
  · exact Bs.nil
theorem badN_f {x : Int} (h : badN x = false) : ∃ n : Nat, x = (n : Int) ∧ n ≤ 281474976710656 ∧ encN x = enc n := by
  have h1 : 0 ≤ x ∧ x ≤ 281474976710656 := by simpa [badN] using h
  refine ⟨x.toNat, by omega, by omega, ?_⟩
  unfold encN
  rw [if_pos h1]
theorem badN_nat {n : Nat} (h : n ≤ 281474976710656) : badN (n : Int) = false ∧ encN (n : Int) = enc n := by
  have h1 : (0 : Int) ≤ n ∧ (n : Int) ≤ 281474976710656 := by omega
  refine ⟨by simp [badN, h1], ?_⟩
  unfold encN
  rw [if_pos h1, Int.toNat_natCast]
theorem pw_n (l : List Int) (b : Bool) (x : Int) (hl : l.length + 10 ≤ LIM) : m_pack_Writer_Num l b x = some (l ++ encN x, b || badN x) := by
  by_cases h : 0 ≤ x ∧ x ≤ 281474976710656
  · obtain ⟨n, h1, h2, h3⟩ := badN_f (x := x) (by simp [badN, h])
    rw [h3, h1, pw_num l b n h2 hl, (badN_nat h2).1, Bool.or_false]
  · rw [pw_bad l b x (by omega)]
    simp [encN, badN, h]
def rdN (M : Int) (l : List Int) (e : Int) : Int × List Int × Int := if e ≠ 0 then (0, l, e) else rd M l
theorem rdN_err (M : Int) (l : List Int) (e : Int) (h : e ≠ 0) : rdN M l e = (0, l, e) := by simp [rdN, h]
theorem rdN_good {M : Int} {l : List Int} (e : Int) (h : Good l) : Good (rdN M l e).2.1 := by
  unfold rdN
  split
  · exact h
  · obtain ⟨h1, h2, _⟩ := rd_bs (M := M) h.b
    exact ⟨h1, by have := h.n; omega⟩
def cNum : Codec Int where
  P := rdN 281474976710656
  W := encN
  bad := badN
  err l e h := by rw [rdN_err _ _ _ h]
  good e h := rdN_good e h
  bsW := bs_encN
  pos x h := by obtain ⟨n, _, _, h3⟩ := badN_f h; rw [h3]; exact enc_pos n
  fwd x cs h _ := by
    obtain ⟨n, h1, h2, h3⟩ := badN_f h
    rw [h3, h1]
    show rdN _ _ _ = _
    unfold rdN
    rw [if_neg (by simp), rd_enc _ n h2, if_pos (by omega)]
  bwd l hb h := by
    have hz : rdN 281474976710656 l 0 = rd 281474976710656 l := by simp [rdN]
    rw [hz] at h ⊢
    rcases rd_all 281474976710656 hb with ⟨e, he, h1⟩ | ⟨v, cs, h1, h2, h3, h4⟩
    · rw [h1] at h; simp at h; omega
    · rw [h1]
      exact ⟨by rw [(badN_nat h4).2]; exact h2, (badN_nat h4).1⟩
theorem rdT_two {l : List Int} (hb : Bs l) : (∃ e, (e = 3 ∨ e = 21) ∧ rdT l = (⟨#[]⟩, [], e)) ∨ ∃ (s : ByteArray) (cs : List Int), rdT l = (s, cs, 0) ∧ l = encT s ++ cs := by
  rcases rdT_all hb with h | ⟨v, cs, h1, h2, h3, h4⟩
  · exact .inl h
  · refine .inr ⟨_, _, h1, ?_⟩
    have hbc : Bs cs := (h2 ▸ hb : Bs (enc v ++ cs)).right
    have hbt := bytesOf_strOf (hbc.take v)
    have hsz : (strOf (cs.take v)).size = v := by rw [← bytesOf_len, hbt, List.length_take]; omega
    unfold encT
    rw [hsz, hbt, List.append_assoc, List.take_append_drop]
    exact h2
def rdTe (l : List Int) (e : Int) : ByteArray × List Int × Int := if e ≠ 0 then (⟨#[]⟩, l, e) else rdT l
theorem rdTe_good {l : List Int} (e : Int) (h : Good l) : Good (rdTe l e).2.1 := by
  unfold rdTe
  split
  · exact h
  · exact ⟨rdT_bs h.b, by have := (rdT_len h.b).1; have := h.n; omega⟩
theorem encT_len (s : ByteArray) : s.size + 1 ≤ (encT s).length := by
  have := enc_pos s.size
  have := bytesOf_len s
  simp [encT]; omega
def cText : Codec ByteArray where
  P := rdTe
  W := encT
  bad _ := false
  err l e h := by simp [rdTe, h]
  good e h := rdTe_good e h
  bsW := bs_encT
  pos s _ := by have := encT_len s; omega
  fwd s cs _ h := by
    have := encT_len s
    show rdTe _ _ = _
    unfold rdTe
    rw [if_neg (by simp), rdT_enc s (by omega)]
  bwd l hb h := by
    have hz : rdTe l 0 = rdT l := by simp [rdTe]
    rw [hz] at h ⊢
    rcases rdT_two hb with ⟨e, he, h1⟩ | ⟨s, cs, h1, h2⟩
    · rw [h1] at h; simp at h; omega
    · rw [h1]; exact ⟨h2, rfl⟩
def rdLe (l : List Int) (e : Int) : List ByteArray × List Int × Int := if e ≠ 0 then ([], l, e) else rdL l
theorem rdLe_good {l : List Int} (e : Int) (h : Good l) : Good (rdLe l e).2.1 := by
  unfold rdLe
  split
  · exact h
  · exact ⟨(rdL_inv h.b).1, by have := (rdL_inv h.b).2; have := h.n; omega⟩
theorem rdTs_bwd : ∀ (k : Nat) (acc : List ByteArray) (l : List Int) (e : Int), Bs l → (rdTs k acc l e).2.2 = 0 → ∃ L : List ByteArray, L.length = k ∧ (rdTs k acc l e).1 = acc ++ L ∧ l = L.flatMap encT ++ (rdTs k acc l e).2.1 ∧ e = 0
  | 0, acc, l, e, hb, h => by
    by_cases he : e = 0
    · subst he; exact ⟨[], rfl, by simp [rdTs], by simp [rdTs], rfl⟩
    · rw [rdTs_err _ _ _ _ he] at h; exact absurd h he
  | k + 1, acc, l, e, hb, h => by
    by_cases he : e = 0
    · subst he
      have e1 : rdTs (k + 1) acc l 0 = rdTs k (acc ++ [(rdT l).1]) (rdT l).2.1 (rdT l).2.2 := by rw [rdTs, if_neg (by simp)]
      rw [e1] at h ⊢
      obtain ⟨L, h1, h2, h3, h4⟩ := rdTs_bwd k _ _ _ (rdT_bs hb) h
      rcases rdT_two hb with ⟨e, he, h5⟩ | ⟨s, cs, h5, h6⟩
      · rw [h5] at h4; simp at h4; omega
      · refine ⟨s :: L, by simp [h1], ?_, ?_, rfl⟩
        · rw [h2, h5]; simp
        · rw [h5] at h3 ⊢
          rw [List.flatMap_cons, List.append_assoc]
          simp only at h3 ⊢
          rw [← h3]; exact h6
    · rw [rdTs_err _ _ _ _ he] at h; exact absurd h he
theorem flat_pos (L : List ByteArray) : L.length ≤ (L.flatMap encT).length := by
  induction L with
  | nil => simp
  | cons s L ih =>
    have := encT_len s
    rw [List.flatMap_cons, List.length_append, List.length_cons]
    omega
theorem flat_mem {L : List ByteArray} {s : ByteArray} (h : s ∈ L) : s.size ≤ (L.flatMap encT).length := by
  induction L with
  | nil => simp at h
  | cons a L ih =>
    have := encT_len a
    rw [List.flatMap_cons, List.length_append]
    rcases List.mem_cons.1 h with rfl | h
    · omega
    · have := ih h; omega
def cTexts : Codec (List ByteArray) where
  P := rdLe
  W := encL
  bad _ := false
  err l e h := by simp [rdLe, h]
  good e h := rdLe_good e h
  bsW := bs_encL
  pos L _ := by have := enc_pos L.length; simp [encL]; omega
  fwd L cs _ h := by
    have h1 := flat_pos L
    have h2 : (encL L).length = (enc L.length).length + (L.flatMap encT).length := by simp [encL]
    show rdLe _ _ = _
    unfold rdLe
    rw [if_neg (by simp), rdL_enc L (by omega) (fun s hs => by have := flat_mem hs; omega)]
  bwd l hb h := by
    have hz : rdLe l 0 = rdL l := by simp [rdLe]
    rw [hz] at h ⊢
    unfold rdL at h ⊢
    rcases rd_all 281474976710656 hb with ⟨e, he, h1⟩ | ⟨v, cs, h1, h2, h3, h4⟩
    · rw [h1] at h
      rw [rdTs_err _ _ _ _ (by simp; omega)] at h
      simp at h; omega
    · rw [h1] at h ⊢
      simp only [Int.toNat_natCast] at h ⊢
      obtain ⟨L, h5, h6, h7, _⟩ := rdTs_bwd v [] cs 0 (h2 ▸ hb : Bs (enc v ++ cs)).right h
      refine ⟨?_, by trivial⟩
      rw [h6, List.nil_append]
      unfold encL
      rw [h5, List.append_assoc, ← h7]
      exact h2
/-- one behind the other. -/
def Codec.pair {α β : Type} (A : Codec α) (C : Codec β) : Codec (α × β) where
  P l e := (((A.P l e).1, (C.P (A.P l e).2.1 (A.P l e).2.2).1), (C.P (A.P l e).2.1 (A.P l e).2.2).2)
  W x := A.W x.1 ++ C.W x.2
  bad x := A.bad x.1 || C.bad x.2
  err l e h := by
    have h1 := A.err l e h
    simp only [h1]
    exact C.err l e h
  good e h := C.good _ (A.good e h)
  bsW x := (A.bsW _).app (C.bsW _)
  pos x h := by
    rw [Bool.or_eq_false_iff] at h
    have := A.pos _ h.1
    rw [List.length_append]; omega
  fwd x cs h hl := by
    rw [Bool.or_eq_false_iff] at h
    rw [List.length_append] at hl
    have h1 := A.fwd x.1 (C.W x.2 ++ cs) h.1 (by omega)
    have h2 := C.fwd x.2 cs h.2 (by omega)
    rw [List.append_assoc, h1, h2]
  bwd l hb h := by
    have h0 : (A.P l 0).2.2 = 0 := by
      refine Decidable.byContradiction fun hne => ?_
      have := C.err (A.P l 0).2.1 (A.P l 0).2.2 hne
      simp only [this] at h
      exact hne h
    obtain ⟨h1, h2⟩ := A.bwd l hb h0
    simp only [h0] at h ⊢
    have hb2 : Bs (A.P l 0).2.1 := (h1 ▸ hb : Bs (A.W (A.P l 0).1 ++ (A.P l 0).2.1)).right
    obtain ⟨h3, h4⟩ := C.bwd _ hb2 h
    refine ⟨?_, by rw [h2, h4]; rfl⟩
    rw [List.append_assoc, ← h3]
    exact h1
def Codec.iso {α β : Type} (A : Codec α) (f : α → β) (g : β → α) (h1 : ∀ x, g (f x) = x) (h2 : ∀ y, f (g y) = y) : Codec β where
  P l e := (f (A.P l e).1, (A.P l e).2)
  W y := A.W (g y)
  bad y := A.bad (g y)
  err l e h := A.err l e h
  good e h := A.good e h
  bsW y := A.bsW _
  pos y h := A.pos _ h
  fwd y cs h hl := by rw [A.fwd _ cs h hl, h2]
  bwd l hb h := by rw [h1]; exact A.bwd l hb h
section
variable {α : Type} (C : Codec α)
/-- what is whole. -/
def Codec.get (z : α) (l : List Int) : α × Int := if (C.P l 0).2.2 = 0 ∧ (C.P l 0).2.1 = [] then ((C.P l 0).1, 0) else (z, 3)
def Codec.put (x : α) : List Int × Int := if C.bad x then ([], 1) else (C.W x, 0)
theorem Codec.get_ok {z : α} {l : List Int} (hb : Bs l) (h : (C.get z l).2 = 0) : l = C.W (C.get z l).1 ∧ C.bad (C.get z l).1 = false := by
  unfold Codec.get at h ⊢
  split at h
  · rename_i hc
    rw [if_pos hc]
    obtain ⟨h1, h2⟩ := C.bwd l hb hc.1
    rw [hc.2, List.append_nil] at h1
    exact ⟨h1, h2⟩
  · simp at h
theorem Codec.get_err {z : α} {l : List Int} (h : (C.get z l).2 ≠ 0) : C.get z l = (z, 3) := by
  unfold Codec.get at h ⊢
  split at h
  · simp at h
  · rename_i hc; rw [if_neg hc]
theorem Codec.inj {x y : α} (hx : C.bad x = false) (hy : C.bad y = false) (lx : (C.W x).length ≤ 100000000000) (ly : (C.W y).length ≤ 100000000000) (h : C.W x = C.W y) : x = y := by
  have h1 := C.fwd x [] hx lx
  have h2 := C.fwd y [] hy ly
  rw [h, h2] at h1
  exact (Prod.mk.inj h1).1.symm
/-- what is cut is none; nor is what has more. -/
theorem Codec.cut (z x : α) (h : C.bad x = false) (hl : (C.W x).length ≤ 100000000000) (k : Nat) (hk : k < (C.W x).length) : C.get z ((C.W x).take k) = (z, 3) := by
  refine C.get_err fun h0 => ?_
  obtain ⟨h1, h2⟩ := C.get_ok ((C.bsW x).take k) h0
  have h3 := C.fwd x [] h hl
  have hlen : (C.W (C.get z ((C.W x).take k)).1).length ≤ 100000000000 := by
    rw [← h1, List.length_take]; omega
  have h4 := C.fwd _ ((C.W x).drop k) h2 hlen
  rw [← h1, List.take_append_drop] at h4
  rw [List.append_nil, h4] at h3
  have := congrArg (fun p : α × List Int × Int => p.2.1.length) h3
  simp at this
  omega
end
end Go.Cb
