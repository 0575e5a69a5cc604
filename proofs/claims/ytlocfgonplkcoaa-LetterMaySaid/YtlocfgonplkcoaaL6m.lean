/- Rows of things, written and read. -/
import Derived.Test.YtlocfgonplkcoaaL5m
set_option linter.unusedVariables false
set_option linter.unusedSimpArgs false
namespace Go.Cb
open Go.RowKit
section list
variable {α : Type} (A : Codec α)
def rows : Nat → List α → List Int → Int → List α × List Int × Int
  | 0, acc, l, e => (acc, l, e)
  | k + 1, acc, l, e => if e ≠ 0 then (acc, l, e) else rows k (acc ++ [(A.P l e).1]) (A.P l e).2.1 (A.P l e).2.2
theorem rows_err (k : Nat) (acc : List α) (l : List Int) (e : Int) (he : e ≠ 0) : rows A k acc l e = (acc, l, e) := by
  cases k <;> simp [rows, he]
theorem rows_good : ∀ (k : Nat) (acc : List α) (l : List Int) (e : Int), Good l → Good (rows A k acc l e).2.1
  | 0, acc, l, e, h => h
  | k + 1, acc, l, e, h => by
    unfold rows
    split
    · exact h
    · exact rows_good k _ _ _ (A.good e h)
theorem rows_fwd : ∀ (L acc : List α) (cs : List Int), (∀ x ∈ L, A.bad x = false ∧ (A.W x).length ≤ 100000000000) → rows A L.length acc (L.flatMap A.W ++ cs) 0 = (acc ++ L, cs, 0)
  | [], acc, cs, _ => by simp [rows]
  | x :: L, acc, cs, h => by
    have h1 := h x (by simp)
    rw [List.length_cons, rows, if_neg (by simp), List.flatMap_cons, List.append_assoc, A.fwd x _ h1.1 h1.2]
    rw [rows_fwd L _ cs fun t ht => h t (by simp [ht])]
    simp
theorem rows_bwd : ∀ (k : Nat) (acc : List α) (l : List Int) (e : Int), Bs l → (rows A k acc l e).2.2 = 0 → ∃ L : List α, L.length = k ∧ (rows A k acc l e).1 = acc ++ L ∧ l = L.flatMap A.W ++ (rows A k acc l e).2.1 ∧ (∀ x ∈ L, A.bad x = false) ∧ e = 0
  | 0, acc, l, e, hb, h => ⟨[], rfl, by simp [rows], by simp [rows], by simp, h⟩
  | k + 1, acc, l, e, hb, h => by
    by_cases he : e = 0
    · subst he
      have e1 : rows A (k + 1) acc l 0 = rows A k (acc ++ [(A.P l 0).1]) (A.P l 0).2.1 (A.P l 0).2.2 := by rw [rows, if_neg (by simp)]
      rw [e1] at h ⊢
      by_cases h0 : (A.P l 0).2.2 = 0
      · obtain ⟨h1, h2⟩ := A.bwd l hb h0
        have hb2 : Bs (A.P l 0).2.1 := (h1 ▸ hb : Bs (A.W (A.P l 0).1 ++ (A.P l 0).2.1)).right
        obtain ⟨L, h3, h4, h5, h6, _⟩ := rows_bwd k _ _ _ hb2 h
        refine ⟨(A.P l 0).1 :: L, by simp [h3], by rw [h4]; simp, ?_, ?_, rfl⟩
        · rw [List.flatMap_cons, List.append_assoc, ← h5]; exact h1
        · intro x hx
          rcases List.mem_cons.1 hx with rfl | hx
          · exact h2
          · exact h6 x hx
      · rw [rows_err A _ _ _ _ h0] at h; exact absurd h h0
    · rw [rows_err A _ _ _ _ he] at h; exact absurd h he
theorem flatA_pos {L : List α} (h : ∀ x ∈ L, A.bad x = false) : L.length ≤ (L.flatMap A.W).length ∧ ∀ x ∈ L, (A.W x).length ≤ (L.flatMap A.W).length := by
  induction L with
  | nil => simp
  | cons s L ih =>
    have h1 := ih fun t ht => h t (by simp [ht])
    have h2 := A.pos s (h s (by simp))
    rw [List.flatMap_cons, List.length_append, List.length_cons]
    refine ⟨by omega, fun x hx => ?_⟩
    rcases List.mem_cons.1 hx with rfl | hx
    · omega
    · have := h1.2 x hx; omega
def cList : Codec (List α) where
  P l e := rows A (rdN 281474976710656 l e).1.toNat [] (rdN 281474976710656 l e).2.1 (rdN 281474976710656 l e).2.2
  W L := encN (L.length : Int) ++ L.flatMap A.W
  bad L := badN (L.length : Int) || L.any A.bad
  err l e h := by rw [rdN_err _ _ _ h]; rfl
  good e h := rows_good A _ _ _ _ (rdN_good e h)
  bsW L := (bs_encN _).app (by intro x hx; obtain ⟨s, _, hs⟩ := List.mem_flatMap.1 hx; exact A.bsW s x hs)
  pos L h := by
    rw [Bool.or_eq_false_iff] at h
    obtain ⟨n, _, _, h3⟩ := badN_f h.1
    have := enc_pos n
    rw [List.length_append, h3]; omega
  fwd L cs h hl := by
    rw [Bool.or_eq_false_iff] at h
    have hb : ∀ x ∈ L, A.bad x = false := fun x hx => by
      have := List.any_eq_false.1 h.2 x hx
      simpa using this
    rw [List.length_append] at hl
    have h1 := flatA_pos A hb
    have h2 := cNum.fwd (L.length : Int) (L.flatMap A.W ++ cs) h.1 (by have := encN_len (L.length : Int); show (encN _).length ≤ _; omega)
    have h3 : rdN 281474976710656 (encN (L.length : Int) ++ (L.flatMap A.W ++ cs)) 0 = ((L.length : Int), L.flatMap A.W ++ cs, 0) := h2
    rw [List.append_assoc, h3]
    simp only [Int.toNat_natCast]
    rw [rows_fwd A L [] cs fun x hx => ⟨hb x hx, by have := h1.2 x hx; omega⟩]
    simp
  bwd l hb h := by
    by_cases h0 : (rdN 281474976710656 l 0).2.2 = 0
    · obtain ⟨h1, h2⟩ := cNum.bwd l hb h0
      have h1' : l = encN (rdN 281474976710656 l 0).1 ++ (rdN 281474976710656 l 0).2.1 := h1
      have hb2 : Bs (rdN 281474976710656 l 0).2.1 := (h1' ▸ hb : Bs (encN (rdN 281474976710656 l 0).1 ++ (rdN 281474976710656 l 0).2.1)).right
      obtain ⟨L, h3, h4, h5, h6, _⟩ := rows_bwd A _ [] _ _ hb2 h
      have h2' : badN (rdN 281474976710656 l 0).1 = false := h2
      obtain ⟨n, h7, h8, _⟩ := badN_f h2'
      have hL : (L.length : Int) = (rdN 281474976710656 l 0).1 := by rw [h3, h7]; simp
      rw [h4, List.nil_append, hL]
      refine ⟨?_, ?_⟩
      · rw [List.append_assoc, ← h5]; exact h1'
      · rw [h2', Bool.false_or]
        exact List.any_eq_false.2 fun x hx => by simp [h6 x hx]
    · rw [rows_err A _ _ _ _ h0] at h; exact absurd h h0
/-- a loop that writes a row. -/
theorem row_gen {β : Type} (c : Nat) (L : List α) (hL : L.length ≤ 1000000) (one : List Int → Bool → α → Option (List Int × Bool)) (hW : ∀ x ∈ L, (A.W x).length ≤ c)
    (hone : ∀ x ∈ L, ∀ l b, l.length + c + 100 ≤ LIM → one l b x = some (l ++ A.W x, b || A.bad x)) (F : Nat → Int → List Int → Bool → Option β) (K : List Int → Bool → Option β)
    (hF : ∀ k (i : Nat) l b (hi : i < L.length), F (k + 1) (i : Int) l b = (one l b L[i]).bind fun u => F k (IntKind.i64.wrap ((i : Int) + 1)) u.1 u.2)
    (h0 : ∀ k l b, F (k + 1) (L.length : Int) l b = K l b) :
    ∀ (k i f : Nat) (l : List Int) (b : Bool), i + k = L.length → k + 1 ≤ f → l.length + k * c + 200 ≤ LIM → F f (i : Int) l b = K (l ++ (L.drop i).flatMap A.W) (b || (L.drop i).any A.bad)
  | k, i, 0, l, b, h, h', hl => by omega
  | 0, i, f + 1, l, b, h, h', hl => by
    have : i = L.length := by omega
    subst this
    rw [h0, List.drop_length]
    simp
  | k + 1, i, f + 1, l, b, h, h', hl => by
    have hi : i < L.length := by omega
    have hm := List.getElem_mem hi
    have h1 := hW _ hm
    have hs : (k + 1) * c = k * c + c := Nat.succ_mul k c
    have hq : 0 ≤ k * c := Nat.zero_le _
    rw [hF f i l b hi, hone _ hm l b (by omega)]
    simp only [Option.bind_some]
    rw [show IntKind.i64.wrap ((i : Int) + 1) = ((i + 1 : Nat) : Int) from by rw [w64 (by omega) (by omega)]; rfl]
    rw [row_gen c L hL one hW hone F K hF h0 k (i + 1) f _ _ (by omega) (by omega) (by rw [List.length_append]; omega)]
    rw [List.drop_eq_getElem_cons hi, List.flatMap_cons, List.any_cons, List.append_assoc, Bool.or_assoc]
end list
def Codec.part {α β : Type} (A : Codec α) (f : α → β) (g : β → α) (okb : β → Bool) (h1 : ∀ x, g (f x) = x) (h2 : ∀ y, okb y = true → f (g y) = y) (h3 : ∀ x, okb (f x) = true) : Codec β where
  P l e := (f (A.P l e).1, (A.P l e).2)
  W y := A.W (g y)
  bad y := A.bad (g y) || !okb y
  err l e h := A.err l e h
  good e h := A.good e h
  bsW y := A.bsW _
  pos y h := by rw [Bool.or_eq_false_iff] at h; exact A.pos _ h.1
  fwd y cs h hl := by
    rw [Bool.or_eq_false_iff] at h
    rw [A.fwd _ cs h.1 hl, h2 y (by simpa using h.2)]
  bwd l hb h := by
    rw [h1, h3]
    have := A.bwd l hb h
    exact ⟨this.1, by simp [this.2]⟩
def cBit : Codec Bool where
  P l e := ((rdN 1 l e).1 == 1, (rdN 1 l e).2)
  W b := enc (if b then 1 else 0)
  bad _ := false
  err l e h := by rw [rdN_err _ _ _ h]
  good e h := rdN_good e h
  bsW b := bs_enc _
  pos b _ := enc_pos _
  fwd b cs _ _ := by
    have : rdN 1 (enc (if b then 1 else 0) ++ cs) 0 = (((if b then 1 else 0 : Nat) : Int), cs, 0) := by
      unfold rdN
      rw [if_neg (by simp), rd_enc 1 _ (by split <;> omega), if_pos (by split <;> omega)]
    rw [this]
    cases b <;> rfl
  bwd l hb h := by
    have hz : rdN 1 l 0 = rd 1 l := by simp [rdN]
    rw [hz] at h ⊢
    rcases rd_all 1 hb with ⟨e, he, h1⟩ | ⟨v, cs, h1, h2, h3, h4⟩
    · rw [h1] at h; simp at h; omega
    · rw [h1]
      refine ⟨?_, rfl⟩
      have : v = 0 ∨ v = 1 := by omega
      rcases this with rfl | rfl <;> exact h2
abbrev Answer := S_api_Answer
def cResult : Codec S_api_Result := (cNum.pair (cText.pair (cText.pair (cNum.pair cTexts)))).iso (fun t => ⟨t.1, t.2.1, t.2.2.1, t.2.2.2.1, t.2.2.2.2⟩) (fun x => (x.Err, x.Path, x.Data, x.Version, x.Names)) (fun _ => rfl) (fun _ => rfl)
def cNode : Codec S_api_Node := (cText.pair (cText.pair (cNum.pair cNum))).part (fun t => ⟨t.1, t.2.1, t.2.2.1, 0, t.2.2.2⟩) (fun x => (x.Path, x.Data, x.Version, x.Owner)) (fun x => x.Turn == 0) (fun _ => rfl)
  (fun y h => by have : y.Turn = 0 := by simpa using h
                 cases y; simp at this; subst this; rfl) (fun _ => rfl)
def cTurn : Codec S_api_Turn := (cText.pair cNum).iso (fun t => ⟨t.1, t.2⟩) (fun x => (x.Dir, x.Next)) (fun _ => rfl) (fun _ => rfl)
def cEvent : Codec S_api_Event := (cNum.pair (cNum.pair (cText.pair cNum))).iso (fun t => ⟨t.1, t.2.1, t.2.2.1, t.2.2.2⟩) (fun x => (x.Num, x.Kind, x.Path, x.Watch)) (fun _ => rfl) (fun _ => rfl)
def cMount : Codec S_api_Mount := (cText.pair (cNum.pair (cNum.pair cNum))).iso (fun t => ⟨t.1, t.2.1, t.2.2.1, t.2.2.2⟩) (fun x => (x.Prefix, x.Group, x.Epoch, x.To)) (fun _ => rfl) (fun _ => rfl)
def cAnswer : Codec Answer := (cNum.pair (cNum.pair (cBit.pair (cNum.pair ((cList cResult).pair ((cList cNode).pair ((cList cTurn).pair ((cList cEvent).pair ((cList cMount).pair (cList cNum)))))))))).iso
  (fun t => ⟨t.1, t.2.1, t.2.2.1, t.2.2.2.1, t.2.2.2.2.1, ⟨t.2.2.2.2.2.1, t.2.2.2.2.2.2.1⟩, t.2.2.2.2.2.2.2.1, t.2.2.2.2.2.2.2.2.1, t.2.2.2.2.2.2.2.2.2⟩)
  (fun x => (x.Err, x.At, x.Yes, x.Epoch, x.Results, x.Store.Nodes, x.Store.Turns, x.Events, x.Mounts, x.Wounded)) (fun _ => rfl) (fun _ => rfl)
end Go.Cb
