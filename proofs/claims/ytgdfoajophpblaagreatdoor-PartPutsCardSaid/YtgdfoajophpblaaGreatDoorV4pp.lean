/- Parts, plainly: turns, puts, and all that a part does. -/
import Derived.Test.YtgdfoajophpblaaGreatDoorV3pp
set_option linter.unusedVariables false
set_option linter.unusedSimpArgs false
namespace Go.Cb
open Go.Proofs Go.RowKit

/-! ### a directory's turn -/
def turnOf (l : List Tn) (d : List UInt8) : Int := match l.find? (gEq tkey d) with
  | none => 0
  | some t => t.Next
def setTurn (l : List Tn) (d : List UInt8) (n : Int) : List Tn := if n = 0 then l.filter (fun t => !gEq tkey d t) else l.filter (gLt tkey d) ++ ⟨mk d, n⟩ :: l.filter (gGt tkey d)
theorem tn_ext {x : Tn} {d : List UInt8} (h : tkey x = d) (n : Int) : ({ x with Next := n } : Tn) = ⟨mk d, n⟩ := by
  subst h; cases x; simp [tkey, mk_bl]
theorem not_eq_split (l : List Tn) (d : List UInt8) (hs : l.Pairwise (tkey · < tkey ·)) : l.filter (fun t => !gEq tkey d t) = l.filter (gLt tkey d) ++ l.filter (gGt tkey d) := by
  induction l with
  | nil => rfl
  | cons x l ih =>
    obtain ⟨h1, h2⟩ := List.pairwise_cons.1 hs
    rw [List.filter_cons, List.filter_cons, List.filter_cons, ih h2]
    by_cases a : tkey x < d
    · have b := kl_ne a
      rw [if_pos (by simp [gEq, b]), if_pos (by simp [gLt, a]), if_neg (by simp [gGt, gLt, a])]; rfl
    · have e : l.filter (gLt tkey d) = [] := List.filter_eq_nil_iff.2 fun y hy => by
        have := h1 y hy
        simp only [gLt, decide_eq_true_eq]
        exact fun h => a (kl_trans this h)
      rw [if_neg (by simp [gLt, a] : ¬ gLt tkey d x = true), e]
      by_cases b : tkey x = d
      · rw [if_neg (by simp [gEq, b]), if_neg (by simp [gGt, gEq, b])]
      · rw [if_pos (by simp [gEq, b]), if_pos (by simp [gGt, gLt, gEq, a, b])]; rfl
theorem set_mid {α : Type} (a : List α) (x y : α) (b : List α) : (a ++ x :: b).set a.length y = a ++ y :: b := by simp
theorem erase_mid {α : Type} (a : List α) (x : α) (b : List α) : (a ++ x :: b).eraseIdx a.length = a ++ b := by
  rw [List.eraseIdx_append_of_length_le (Nat.le_refl _)]; simp
theorem turn_shape (l : List Tn) (s : ByteArray) (hlen : l.length ≤ 100000) (hs : l.Pairwise (tkey · < tkey ·)) :
    ∃ i : Nat, ∃ b : Bool, m_slices_BinarySearchFunc_api_Turn_api_Turn_string l s = some ((i : Int), b) ∧ i = (l.filter (gLt tkey (bl s))).length ∧ i ≤ l.length ∧
      (l.filter (gLt tkey (bl s)) ++ l.filter (gGt tkey (bl s))).length ≤ l.length ∧
      ((b = true ∧ ∃ x, tkey x = bl s ∧ turnOf l (bl s) = x.Next ∧ x ∈ l ∧ l = l.filter (gLt tkey (bl s)) ++ x :: l.filter (gGt tkey (bl s))) ∨
       (b = false ∧ turnOf l (bl s) = 0 ∧ l = l.filter (gLt tkey (bl s)) ++ l.filter (gGt tkey (bl s)) ∧ l.take i ++ (⟨s, 0⟩ : Tn) :: l.drop i = l.filter (gLt tkey (bl s)) ++ ⟨s, 0⟩ :: l.filter (gGt tkey (bl s)))) := by
  obtain ⟨i, h1, h2, h3, h4⟩ := twhere l s (by omega) hs
  have hi : i = (l.filter (gLt tkey (bl s))).length := by rw [← h3, List.length_take]; omega
  refine ⟨i, _, h2, hi, h1, ?_, ?_⟩
  · rw [← not_eq_split l _ hs]; exact List.length_filter_le _ _
  · rcases h4 with ⟨x, a, b, c, d, e⟩ | ⟨a, b⟩
    · refine .inl ⟨by rw [c]; rfl, x, b, by unfold turnOf; rw [c], e, ?_⟩
      rw [← a, ← h3, List.take_append_drop]
    · refine .inr ⟨by rw [b]; rfl, by unfold turnOf; rw [b], ?_, by rw [h3, a]⟩
      rw [← a, ← h3, List.take_append_drop]
theorem t1b_j1 (A B : List Tn) (y : Tn) (b : Bool) (hA : A.length ≤ 1000000) : m_part_work_turn_1b_j1 ((A.length : Int), b) (A ++ y :: B) = some (y.Next, if y.Next = 0 then A ++ B else A ++ y :: B) := by
  unfold m_part_work_turn_1b_j1 m_part_work_turn_1b_j2 m_part_work_put_1
  have hi : A.length < (A ++ y :: B).length := by simp
  have hg : (A ++ y :: B)[A.length] = y := by simp
  simp only [Int.toNat_natCast]
  rw [idx_lt hi, hg]
  simp only [Option.bind_some]
  rw [idx_lt (by simp)]
  simp only [Option.bind_some, List.getElem_set_self]
  by_cases c : y.Next = 0
  · rw [if_pos (by simpa using c), if_pos c, ck_b ⟨by omega, by simp; omega, by rw [w64 (by omega) (by omega)]⟩, set_mid, erase_mid]
  · rw [if_neg (by simpa using c), if_neg c, set_mid]
theorem t0_j1 (A B : List Tn) (y : Tn) (b : Bool) (hA : A.length ≤ 1000000) : m_part_work_turn_j1 ((A.length : Int), b) (A ++ y :: B) = some (y.Next, A ++ B) := by
  unfold m_part_work_turn_j1 m_part_work_turn_j2 m_part_work_empty_1
  have hi : A.length < (A ++ y :: B).length := by simp
  have hg : (A ++ y :: B)[A.length] = y := by simp
  simp only [Int.toNat_natCast]
  rw [idx_lt hi, hg]
  simp only [Option.bind_some]
  rw [idx_lt (by simp)]
  simp only [Option.bind_some, List.getElem_set_self]
  rw [if_pos (by rfl), ck_b ⟨by omega, by simp; omega, by rw [w64 (by omega) (by omega)]⟩, set_mid, erase_mid]
theorem t2_j1 (A B : List Tn) (y : Tn) (b : Bool) (hA : A.length ≤ 1000000) (hn : 0 ≤ y.Next ∧ y.Next ≤ 10000) : m_part_work_turn_2_j1 ((A.length : Int), b) (A ++ y :: B) = some (y.Next, A ++ { y with Next := y.Next + 1 } :: B) := by
  unfold m_part_work_turn_2_j1 m_part_work_turn_2_j2 m_part_work_put_2
  have hi : A.length < (A ++ y :: B).length := by simp
  have hg : (A ++ y :: B)[A.length] = y := by simp
  simp only [Int.toNat_natCast]
  rw [idx_lt hi, hg]
  simp only [Option.bind_some]
  rw [w64 (by omega) (by omega), idx_lt (by simp)]
  simp only [Option.bind_some, List.getElem_set_self]
  rw [if_neg (by simp; omega), set_mid]
theorem turn_same (l : List Tn) (t : List Nd) (x : Int) (a b : ByteArray) (c : Int) (e : List ByteArray) (s : ByteArray) (hlen : l.length ≤ 100000) (hs : l.Pairwise (tkey · < tkey ·)) (hn : ∀ y ∈ l, y.Next ≠ 0) : m_part_work_turn_1b t l x a b c e s = some (turnOf l (bl s), l) := by
  obtain ⟨i, z, h1, h2, h2', h3, h4⟩ := turn_shape l s hlen hs
  unfold m_part_work_turn_1b
  rw [h1]
  simp only [Option.bind_some]
  rcases h4 with ⟨rfl, y, hy, ht, hm, hl⟩ | ⟨rfl, ht, hl, hd⟩
  · rw [if_neg (by simp), h2]
    conv => lhs; arg 2; rw [hl]
    rw [t1b_j1 _ _ _ _ (by omega), ht, if_neg (hn _ hm), ← hl]
  · rw [if_pos (by rfl), ck_b (by omega), Int.toNat_natCast, hd, h2, t1b_j1 _ _ _ _ (by omega), ht, if_pos rfl, ← hl]
theorem turn_zero (l : List Tn) (t : List Nd) (x : Int) (a b : ByteArray) (c : Int) (e : List ByteArray) (s : ByteArray) (hlen : l.length ≤ 100000) (hs : l.Pairwise (tkey · < tkey ·)) : m_part_work_turn t l x a b c e s = some (turnOf l (bl s), setTurn l (bl s) 0) := by
  obtain ⟨i, z, h1, h2, h2', h3, h4⟩ := turn_shape l s hlen hs
  unfold m_part_work_turn setTurn
  rw [h1, if_pos rfl, not_eq_split l _ hs]
  simp only [Option.bind_some]
  rcases h4 with ⟨rfl, y, hy, ht, hm, hl⟩ | ⟨rfl, ht, hl, hd⟩
  · rw [if_neg (by simp), h2]
    conv => lhs; arg 2; rw [hl]
    rw [t0_j1 _ _ _ _ (by omega), ht]
  · rw [if_pos (by rfl), ck_b (by omega), Int.toNat_natCast, hd, h2, t0_j1 _ _ _ _ (by omega), ht]
theorem turn_next (l : List Tn) (t : List Nd) (x : Int) (a b : ByteArray) (c : Int) (e : List ByteArray) (s : ByteArray) (hlen : l.length ≤ 100000) (hs : l.Pairwise (tkey · < tkey ·)) (hn : ∀ y ∈ l, 1 ≤ y.Next ∧ y.Next ≤ 10000) : m_part_work_turn_2 t l x a b c e s = some (turnOf l (bl s), setTurn l (bl s) (turnOf l (bl s) + 1)) := by
  obtain ⟨i, z, h1, h2, h2', h3, h4⟩ := turn_shape l s hlen hs
  unfold m_part_work_turn_2 setTurn
  rw [h1]
  simp only [Option.bind_some]
  rcases h4 with ⟨rfl, y, hy, ht, hm, hl⟩ | ⟨rfl, ht, hl, hd⟩
  · have hny := hn _ hm
    rw [if_neg (by simp), h2, ht, if_neg (by omega)]
    conv => lhs; arg 2; rw [hl]
    rw [t2_j1 _ _ _ _ (by omega) (by omega), tn_ext hy]
  · rw [if_pos (by rfl), ck_b (by omega), Int.toNat_natCast, hd, h2, t2_j1 _ _ _ _ (by omega) (by simp), ht, if_neg (by decide), mk_bl]
/-! ### Put -/
def pop (p : Pt1) : Op1 := ⟨0, p.Path, mk [], 0, 0, p.Turns⟩
def putP (s : Sto) (p : Pt1) : Sto × Res :=
  match nameS (pop p) (upP (bl p.Path)) (turnOf s.Turns (upP (bl p.Path))) with
  | none => (s, res 66)
  | some q => if (s.Nodes.find? (isK q)).isSome = true then (s, res 61) else
    (⟨insS ⟨mk q, p.Data, 0, 0, p.Owner⟩ s.Nodes, if p.Turns = true then setTurn s.Turns (upP (bl p.Path)) (turnOf s.Turns (upP (bl p.Path)) + 1) else s.Turns⟩, { res 0 with Path := mk q })
theorem store_next {s : Sto} (S : StoreOk s) : ∀ y ∈ s.Turns, 1 ≤ y.Next ∧ y.Next ≤ 10000 := fun y hy => by
  have := List.all_eq_true.1 S.turns y hy
  simp [ptB] at this
  omega
theorem ins_split {l : List Nd} {x : Nd} (hs : l.Pairwise (key · < key ·)) (hn : l.find? (isK (key x)) = none) : l.filter (gLt key (key x)) ++ x :: l.filter (gGt key (key x)) = insS x l := by
  unfold insS
  congr 2
  refine List.filter_congr fun y hy => ?_
  have := find_no.1 hn y hy
  simp [gGt, gLt, gEq, ltB, this]
theorem pput_j1 (s : Sto) (p : Pt1) (q d : List UInt8) (b : Bool) (hlen : s.Nodes.length ≤ 100000) (hlt : s.Turns.length ≤ 100000) (S : StoreOk s) :
    m_part_work_put_j1 s.Nodes p 0 em 0 [] em (mk d, b) (mk q) s.Turns = some (if (s.Nodes.find? (isK q)).isSome = true then (s.Nodes, s.Turns, 61, em, em, 0, []) else (insS ⟨mk q, p.Data, 0, 0, p.Owner⟩ s.Nodes, (if p.Turns = true then setTurn s.Turns d (turnOf s.Turns d + 1) else s.Turns), 0, mk q, em, 0, [])) := by
  unfold m_part_work_put_j1 m_part_work_put_j2 m_part_work_fail
  obtain ⟨i, h1, h2, h3, h4⟩ := pwhere s.Nodes (mk q) (by omega) S.nsort
  rw [h2]
  rw [bl_mk] at h3 h4 ⊢
  simp only [Option.bind_some]
  rcases h4 with ⟨x, _, hk, hf, hi, _⟩ | ⟨hd, hf⟩
  · rw [hf]; rfl
  · rw [hf]
    simp only [Option.isSome_none, Bool.false_eq_true, if_false, Int.toNat_natCast]
    have e : s.Nodes.take i ++ (⟨mk q, p.Data, 0, 0, p.Owner⟩ : Nd) :: s.Nodes.drop i = insS ⟨mk q, p.Data, 0, 0, p.Owner⟩ s.Nodes := by
      rw [h3, hd]
      exact ins_split (x := (⟨mk q, p.Data, 0, 0, p.Owner⟩ : Nd)) S.nsort hf
    cases hT : p.Turns with
    | true =>
      rw [if_pos rfl, if_pos rfl, turn_next _ _ _ _ _ _ _ _ hlt S.tsort (store_next S), bl_mk]
      simp only [Option.bind_some]
      rw [ck_b (by omega), e]
    | false =>
      rw [if_neg (by simp), if_neg (by simp), ck_b (by omega), e]
def putR (s : Sto) (p : Pt1) : List Nd × List Tn × Int × ByteArray × ByteArray × Int × List ByteArray :=
  match nameS (pop p) (upP (bl p.Path)) (turnOf s.Turns (upP (bl p.Path))) with
  | none => (s.Nodes, s.Turns, 66, em, em, 0, [])
  | some q => if (s.Nodes.find? (isK q)).isSome = true then (s.Nodes, s.Turns, 61, em, em, 0, []) else
    (insS ⟨mk q, p.Data, 0, 0, p.Owner⟩ s.Nodes, (if p.Turns = true then setTurn s.Turns (upP (bl p.Path)) (turnOf s.Turns (upP (bl p.Path)) + 1) else s.Turns), 0, mk q, em, 0, [])
theorem pput_eq (s : Sto) (p : Pt1) (q : List UInt8) (hq : parentS (bl p.Path) = some q) (hlen : s.Nodes.length ≤ 100000) (hlt : s.Turns.length ≤ 100000) (S : StoreOk s) :
    m_part_work_put s.Nodes s.Turns 0 em em 0 [] p = some (putR s p) := by
  unfold m_part_work_put putR
  have hu : upP (bl p.Path) = q := by unfold upP; rw [hq]; rfl
  rw [Parent_eq, hq, hu, show (os2 (some q)) = (mk q, true) from rfl]
  simp only [Option.bind_some]
  cases hT : p.Turns with
  | false =>
    have hn : nameS (pop p) q (turnOf s.Turns q) = some (bl p.Path) := by unfold nameS; rw [if_neg (by simp [pop, hT])]; rfl
    have := pput_j1 s p (bl p.Path) q true hlen hlt S
    rw [mk_bl, hT] at this
    rw [if_neg (by simp), hn, this]
    simp only [mk_bl]
  | true =>
    have hn : nameS (pop p) q (turnOf s.Turns q) = (numS (lastS (bl p.Path)) (turnOf s.Turns q)).map (fun s => (joinS q s).getD []) := by unfold nameS; rw [if_pos (by simp [pop, hT])]; rfl
    rw [if_pos rfl, hn, turn_same _ _ _ _ _ _ _ _ hlt S.tsort (fun y hy => by have := store_next S y hy; omega), Last_eq, bl_mk]
    simp only [Option.bind_some]
    rw [Numbered_eq _ _ (by rw [bl_mk]; have := last_len (bl p.Path); omega), bl_mk]
    simp only [Option.bind_some]
    cases hm : numS (lastS (bl p.Path)) (turnOf s.Turns q) with
    | none =>
      rw [Join_eq _ _ (by simp [os2, bl_mk])]
      simp only [Option.bind_some, Option.map_none]
      rw [if_pos (by rfl)]
      rfl
    | some t =>
      obtain ⟨t1, t2, t3⟩ := numS_ok hm
      have tl := part12 t1
      rw [show (os2 (some t)) = (mk t, true) from rfl]
      simp only
      rw [Join_eq _ _ (by rw [bl_mk]; omega), bl_mk, bl_mk]
      simp only [Option.bind_some, Option.map_some]
      have := pput_j1 s p ((joinS q t).getD []) q true hlen hlt S
      rw [hT] at this
      rw [if_neg (by simp), show (os2 (joinS q t)).1 = mk ((joinS q t).getD []) from by cases joinS q t <;> rfl, this]
      simp
/-! ### a part -/
def doP (s : Sto) (p : Pt1) : Sto × Res :=
  if p.Kind = 2 then putP s p
  else if p.Kind = 4 then if s.Nodes.any (childB (bl p.Path)) = true then (s, res 64) else (⟨s.Nodes, setTurn s.Turns (bl p.Path) 0⟩, res 0)
  else if p.Kind = 9 then (s, { res 0 with Names := (s.Nodes.filter (childB (bl p.Path))).map lastN })
  else if p.Kind = 10 then (⟨s.Nodes.filter (fun x => !ownB (bl p.Path) p.Owner x), s.Turns⟩, { res 0 with Names := (s.Nodes.filter (ownB (bl p.Path) p.Owner)).map lastN })
  else if (ndS s.Nodes p).2 ≠ 0 then (s, res (ndS s.Nodes p).2)
  else if p.Kind = 1 then (s, res (if (ndS s.Nodes p).1.Owner ≠ 0 then 65 else 0))
  else if p.Kind = 3 then (⟨s.Nodes.filter (fun y => !isK (bl p.Path) y), s.Turns⟩, res 0)
  else if p.Kind = 5 then if (ndS s.Nodes p).1.Version = 281474976710656 then (s, res 2) else (⟨upd s.Nodes (bl p.Path) (altF p), s.Turns⟩, { res 0 with Version := (ndS s.Nodes p).1.Version + 1 })
  else if p.Kind = 6 then (s, { res 0 with Version := (ndS s.Nodes p).1.Version })
  else if p.Kind = 7 then (s, { res 0 with Data := (ndS s.Nodes p).1.Data, Version := (ndS s.Nodes p).1.Version })
  else (s, res 0)
theorem mayP_iff {p : Pt1} (h : mayP p = true) : fieldsB p.Path p.Data p.Version (-1) p.Owner = true ∧ bl p.Dir = dirOf p ∧ (1 ≤ p.Kind ∧ p.Kind ≤ 10) ∧ (p.Kind = 2 → bl p.Path ≠ [47]) := by
  unfold mayP at h
  simp only [Bool.and_eq_true, Bool.or_eq_true, decide_eq_true_eq, Bool.not_eq_true', decide_eq_false_iff_not] at h
  exact ⟨h.1.1.1, h.1.1.2, h.1.2, fun k => h.2.resolve_left (fun h' => h' k)⟩
theorem mayP_path {p : Pt1} (h : mayP p = true) : pathOk (bl p.Path) = true := by
  have := (mayP_iff h).1
  unfold fieldsB at this
  simp only [Bool.and_eq_true] at this
  exact this.1.1.1
theorem mayP_parent {p : Pt1} (h : mayP p = true) (hk : p.Kind = 2) : ∃ q, parentS (bl p.Path) = some q := by
  have h1 := mayP_path h
  have h2 := (mayP_iff h).2.2.2 hk
  unfold pathOk at h1
  obtain ⟨ps, hp⟩ := Option.isSome_iff_exists.1 h1
  rcases List.eq_nil_or_concat ps with rfl | ⟨qs, t, rfl⟩
  · exact absurd ((parts_iff _ _).1 hp).1 h2
  · unfold parentS
    rw [hp]
    exact ⟨joinP (qs.concat t).dropLast, by simp⟩
theorem store_ver {s : Sto} (S : StoreOk s) : ∀ x ∈ s.Nodes, 0 ≤ x.Version ∧ x.Version ≤ 281474976710656 := fun x hx => by
  have := List.all_eq_true.1 S.nodes x hx
  simp [pnB, fieldsB] at this
  omega
theorem partDo_eq (s : Sto) (p : Pt1) (hlen : s.Nodes.length ≤ 100000) (hlt : s.Turns.length ≤ 100000) (S : StoreOk s) (hm : mayP p = true) : m_part_Do s p = some (doP s p) := by
  unfold m_part_Do m_part_Do_j1
  obtain ⟨b, h1, h2⟩ := partRight_eq s (by omega) (by omega)
  have hs := S.nsort
  have hn : s.Nodes.length ≤ 1000000 := by omega
  rw [h1, h2.2 S]
  simp only [Option.bind_some]
  rw [if_neg (by simp), partMay_eq, hm]
  simp only [Option.bind_some]
  rw [if_neg (by simp), ck_b (by simp [LIM]; omega), ck_b (by simp [LIM]; omega)]
  unfold doP m_part_Do_j2
  have hk := (mayP_iff hm).2.2.1
  have kk : p.Kind = 1 ∨ p.Kind = 2 ∨ p.Kind = 3 ∨ p.Kind = 4 ∨ p.Kind = 5 ∨ p.Kind = 6 ∨ p.Kind = 7 ∨ p.Kind = 8 ∨ p.Kind = 9 ∨ p.Kind = 10 := by omega
  rcases kk with c | c | c | c | c | c | c | c | c | c
  all_goals simp only [c, Int.reduceBEq, Int.reduceEq, Bool.false_eq_true, if_true, if_false, beq_self_eq_true, Int.reduceNeg]
  · rw [pguard_eq _ _ _ hn hs]
    simp only [Option.bind_some]
    by_cases e : (ndS s.Nodes p).2 = 0
    · by_cases o : (ndS s.Nodes p).1.Owner = 0
      · simp [e, o]; rfl
      · simp [e, o]; rfl
    · rw [if_pos e, if_pos (by simpa using e), if_pos e]; rfl
  · obtain ⟨q, hq⟩ := mayP_parent hm c
    rw [pput_eq s p q hq hlen hlt S]
    unfold putR putP
    simp only [Option.bind_some]
    cases nameS (pop p) (upP (bl p.Path)) (turnOf s.Turns (upP (bl p.Path))) with
    | none => rfl
    | some q =>
      simp only
      by_cases e : (s.Nodes.find? (isK q)).isSome = true
      · rw [if_pos e, if_pos e]; rfl
      · rw [if_neg e, if_neg e]; rfl
  · rw [premove_eq _ _ _ hn hs]
    simp only [Option.bind_some]
    by_cases e : (ndS s.Nodes p).2 = 0
    · simp [e]; rfl
    · rw [if_pos (by simpa using e), if_pos e]; rfl
  · unfold m_part_work_empty m_part_in m_part_work_fail
    simp only [Option.bind_some]
    rw [pany_eq _ _ _ _ _ _ _ _ hn]
    simp only [Option.bind_some]
    by_cases e : s.Nodes.any (childB (bl p.Path)) = true
    · rw [if_pos e, if_pos e]; rfl
    · rw [if_neg e, if_neg e, turn_zero _ _ _ _ _ _ _ _ hlt S.tsort]; rfl
  · rw [palter_eq _ _ _ hn hs (store_ver S)]
    simp only [Option.bind_some]
    by_cases e : (ndS s.Nodes p).2 = 0
    · simp only [e, ne_eq, not_true_eq_false, if_false]
      by_cases v : (ndS s.Nodes p).1.Version = 281474976710656
      · rw [if_pos v, if_pos v]; rfl
      · rw [if_neg v, if_neg v]; rfl
    · rw [if_pos e, if_pos e]
      simp only
      rw [if_pos (by simpa using e)]; rfl
  · rw [plook_eq _ _ _ hn hs]
    simp only [Option.bind_some]
    by_cases e : (ndS s.Nodes p).2 = 0
    · simp only [e, ne_eq, not_true_eq_false, if_false, bne_self_eq_false, Bool.false_eq_true]; rfl
    · rw [if_pos (by simpa using e), if_pos e, if_pos e]; rfl
  · rw [pread_eq _ _ _ hn hs]
    simp only [Option.bind_some]
    by_cases e : (ndS s.Nodes p).2 = 0
    · simp only [e, ne_eq, not_true_eq_false, if_false, bne_self_eq_false, Bool.false_eq_true]; rfl
    · rw [if_pos (by simpa using e), if_pos e, if_pos e, if_pos e]; rfl
  · rw [phas_eq _ _ _ hn hs]
    simp only [Option.bind_some]
    by_cases e : (ndS s.Nodes p).2 = 0
    · simp [e]; rfl
    · rw [if_pos (by simpa using e), if_pos e]; rfl
  · rw [pnames_eq _ _ _ hn]; rfl
  · rw [pclear_eq _ _ _ (by omega)]; rfl
theorem partDo_bad (s : Sto) (p : Pt1) (hlen : s.Nodes.length ≤ 100000) (hlt : s.Turns.length ≤ 100000) (h : ¬ (StoreOk s ∧ mayP p = true)) : m_part_Do s p = some (⟨[], []⟩, res 1) := by
  unfold m_part_Do m_part_Do_j1
  obtain ⟨b, h1, h2⟩ := partRight_eq s (by omega) (by omega)
  rw [h1]
  simp only [Option.bind_some]
  cases b with
  | false => rw [if_pos (by rfl), if_pos trivial]; rfl
  | true =>
    rw [if_neg (by simp), partMay_eq, show mayP p = false from by cases hm : mayP p with | false => rfl | true => exact absurd ⟨h2.1 rfl, hm⟩ h]
    rfl
end Go.Cb
