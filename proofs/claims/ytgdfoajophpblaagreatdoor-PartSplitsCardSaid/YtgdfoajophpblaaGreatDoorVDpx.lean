/- PartSplits, plainly. -/
import Derived.Test.YtgdfoajophpblaaGreatDoorVCpx
import Derived.Test.YtgdfoajophpblaaGreatDoorU9px
import Derived.Test.YtgdfoajophpblaaGreatDoorKpx3
set_option linter.unusedVariables false
set_option linter.unusedSimpArgs false
namespace Go.Cb
open Go.Proofs Go.RowKit

/-! ### the program's tree of two stores -/
def putTs2 (a b : Sto) : List UInt8 → Option Int := putTs (putTs (fun _ => none) a.Turns) b.Turns
theorem tree_two (a b : Sto) (ha : SmS a) (hb : SmS b) (Sa : StoreOk a) (Sb : StoreOk b) : m_part_Tree [a, b] = treeEnd (srtN (a.Nodes ++ b.Nodes)) (putTs2 a b) (a.Turns.length + b.Turns.length) := by
  have a1 := ha.len
  have a2 := ha.lent
  have b1 := hb.len
  have b2 := hb.lent
  unfold m_part_Tree
  rw [show (((([a, b] : List Sto).length : Int) - 0 : Int).toNat + 1) = 3 from rfl, m_part_Tree_l1]
  obtain ⟨x, g1, g2⟩ := partRight_eq a (by omega) (by omega)
  rw [if_pos (by simp), show idx [a, b] 0 = some a from rfl]
  simp only [Option.bind_some]
  rw [g1, g2.2 Sa]
  simp only [Option.bind_some]
  rw [if_neg (by simp), ck_b (by simp [LIM]; omega)]
  have h1 := ptree_l2 (m_part_Tree_l1 [a, b] 2) a [] 0 (by omega) ha Sa (((a.Turns.length : Int) - 0 : Int).toNat + 1) 0 0 0 (fun _ => none) (by omega) (by omega) (by omega) (by omega)
  refine Eq.trans h1 ?_
  rw [List.nil_append, Nat.sub_zero, Nat.zero_add, Nat.zero_add, List.drop_zero, m_part_Tree_l1]
  obtain ⟨y, g3, g4⟩ := partRight_eq b (by omega) (by omega)
  rw [if_pos (by simp), show idx [a, b] ((1 : Nat) : Int) = some b from rfl]
  simp only [Option.bind_some]
  rw [g3, g4.2 Sb]
  simp only [Option.bind_some]
  rw [if_neg (by simp), ck_b (by simp [LIM]; omega)]
  have h2 := ptree_l2 (m_part_Tree_l1 [a, b] 1) b a.Nodes 1 (by omega) hb Sb (((b.Turns.length : Int) - 0 : Int).toNat + 1) 0 a.Turns.length a.Turns.length (putTs (fun _ => none) a.Turns) (by omega) (by omega) (by omega) (by omega)
  refine Eq.trans h2 ?_
  rw [Nat.sub_zero, List.drop_zero, m_part_Tree_l1, if_neg (by simp), ck_b (by simp; omega)]
  have hsl := srt_len (a.Nodes ++ b.Nodes)
  have hsm : Sm (a.Nodes ++ b.Nodes) := fun x hx => by
    rcases List.mem_append.1 hx with h | h
    · exact ha.sm x h
    · exact hb.sm x h
  have h3 := ptree_l3 (a.Nodes ++ b.Nodes) (putTs2 a b) (a.Turns.length + b.Turns.length) hsm (by simp; omega) ((((srtN (a.Nodes ++ b.Nodes)).length : Int) - 0 : Int).toNat + 1) 0 (srtN (a.Nodes ++ b.Nodes)) 0 (by omega) (by omega) (by simp [setTs]) (by simp [cntTs])
  exact h3
theorem tree_two_bad (a b : Sto) (ha : SmS a) (hb : SmS b) (S : ¬ (StoreOk a ∧ StoreOk b)) : m_part_Tree [a, b] = some ([], false) := by
  have a1 := ha.len
  have a2 := ha.lent
  have b1 := hb.len
  have b2 := hb.lent
  unfold m_part_Tree
  rw [show (((([a, b] : List Sto).length : Int) - 0 : Int).toNat + 1) = 3 from rfl, m_part_Tree_l1]
  obtain ⟨x, g1, g2⟩ := partRight_eq a (by omega) (by omega)
  rw [if_pos (by simp), show idx [a, b] 0 = some a from rfl]
  simp only [Option.bind_some]
  rw [g1]
  simp only [Option.bind_some]
  cases x with
  | false => rfl
  | true =>
    have Sa := g2.1 rfl
    rw [if_neg (by simp), ck_b (by simp [LIM]; omega)]
    have h1 := ptree_l2 (m_part_Tree_l1 [a, b] 2) a [] 0 (by omega) ha Sa (((a.Turns.length : Int) - 0 : Int).toNat + 1) 0 0 0 (fun _ => none) (by omega) (by omega) (by omega) (by omega)
    refine Eq.trans h1 ?_
    rw [List.nil_append, Nat.sub_zero, Nat.zero_add, Nat.zero_add, List.drop_zero, m_part_Tree_l1]
    obtain ⟨y, g3, g4⟩ := partRight_eq b (by omega) (by omega)
    rw [if_pos (by simp), show idx [a, b] ((1 : Nat) : Int) = some b from rfl]
    simp only [Option.bind_some]
    rw [g3, show y = false from by cases y with | false => rfl | true => exact absurd ⟨Sa, g4.1 rfl⟩ S]
    rfl
/-! ### the document's -/
def mtS (p : List UInt8) (l : List Tn) : List Int := (l.filter (gEq tkey p)).map (·.Next)
def hd0 (g : List Int) : Int := g.headD 0
theorem rtree_l5 (L : List Sto) (j : Nat) (s : Sto) (hj : L[j]? = some s) (S : StoreOk s) (hl : s.Turns.length ≤ 90000) (rec : List Nd → Int → Int → Int → Option (List Nd × Bool)) (x : Nd) (acc : List Nd) (hj0 : j ≤ 100) : ∀ (k i : Nat) (n : Int) (g : List Int), i ≤ s.Turns.length → s.Turns.length + 1 ≤ i + k → g.length ≤ 1 → (∀ z ∈ g, 1 ≤ z) → -1000000 ≤ n → n ≤ 1000000 + i →
    m_cantonref07_Tree_l5 rec L (j : Int) x acc k n (i : Int) (hd0 g) = if (g ++ mtS (key x) (s.Turns.drop i)).length ≤ 1 then rec acc (n + (mtS (key x) (s.Turns.drop i)).length) ((j + 1 : Nat) : Int) (hd0 (g ++ mtS (key x) (s.Turns.drop i))) else some ([], false)
  | 0, i, n, g, _, h, _, _, _, _ => by omega
  | k + 1, i, n, g, h0, h, hg, hp, hn0, hn => by
    have hij : idx L (j : Int) = some s := by rw [← hj]; simp [idx]
    rw [m_cantonref07_Tree_l5, hij]
    simp only [Option.bind_some]
    by_cases hi : i < s.Turns.length
    · rw [if_pos (by simpa using hi), idx_lt hi]
      simp only [Option.bind_some]
      rw [sEq_bl, List.drop_eq_getElem_cons hi]
      have hm : mtS (key x) (s.Turns[i] :: s.Turns.drop (i + 1)) = if tkey s.Turns[i] = key x then (s.Turns[i]).Next :: mtS (key x) (s.Turns.drop (i + 1)) else mtS (key x) (s.Turns.drop (i + 1)) := by
        unfold mtS
        rw [List.filter_cons]
        by_cases c : tkey s.Turns[i] = key x
        · rw [if_pos (by simpa [gEq] using c), if_pos c, List.map_cons]
        · rw [if_neg (by simpa [gEq] using c), if_neg c]
      rw [hm]
      have hne := store_next S _ (List.getElem_mem hi)
      by_cases c : tkey s.Turns[i] = key x
      · rw [if_pos (by simpa [tkey, key] using c), if_pos c]
        cases g with
        | nil =>
          rw [if_neg (by simp [hd0])]
          unfold m_cantonref07_Tree_j1
          rw [inc1 (by omega), w64 (by omega) (by omega)]
          have := rtree_l5 L j s hj S hl rec x acc hj0 k (i + 1) (n + 1) [(s.Turns[i]).Next] (by omega) (by omega) (by simp) (by simp; omega) (by omega) (by omega)
          refine Eq.trans this ?_
          rw [List.nil_append, List.singleton_append]
          congr 2
          rw [List.length_cons]
          omega
        | cons z g' =>
          have hz := hp z (by simp)
          have hg' : g' = [] := by cases g' with | nil => rfl | cons _ _ => simp at hg
          rw [if_pos (by simp [hd0]; omega), if_neg (by simp)]
      · rw [if_neg (by simpa [tkey, key] using c), if_neg c]
        unfold m_cantonref07_Tree_j1
        rw [inc1 (by omega)]
        exact rtree_l5 L j s hj S hl rec x acc hj0 k (i + 1) n g (by omega) (by omega) hg hp hn0 (by omega)
    · rw [if_neg (by simpa using hi), List.drop_eq_nil_of_le (by omega), inc1 (by omega)]
      rw [show mtS (key x) [] = [] from rfl, List.append_nil, if_pos hg]
      simp
def mtL (p : List UInt8) (L : List Sto) : List Int := L.flatMap fun s => mtS p s.Turns
structure OkL (L : List Sto) : Prop where
  ok : ∀ s ∈ L, StoreOk s
  sm : ∀ s ∈ L, SmS s
  lt : ∀ s ∈ L, s.Turns.length < 3000
  ln : ∀ s ∈ L, s.Nodes.length < 3000
  len : L.length ≤ 2
theorem mt_pos {L : List Sto} (O : OkL L) (p : List UInt8) : ∀ z ∈ mtL p L, 1 ≤ z := fun z hz => by
  obtain ⟨s, hs, h⟩ := List.mem_flatMap.1 hz
  obtain ⟨t, ht, rfl⟩ := List.mem_map.1 h
  exact (store_next (O.ok s hs) t (List.mem_filter.1 ht).1).1
theorem mtS_len (p : List UInt8) (l : List Tn) : (mtS p l).length ≤ l.length := by unfold mtS; rw [List.length_map]; exact List.length_filter_le _ _
def setT (x : Nd) (g : List Int) : Nd := ⟨x.Path, x.Data, x.Version, hd0 g, x.Owner⟩
theorem rtree_l4 (L : List Sto) (O : OkL L) (rec : List Nd → Int → Int → Option (List Nd × Bool)) (x : Nd) (acc : List Nd) (i : Nat) (hi : i ≤ 90000) : ∀ (k j : Nat) (n : Int) (g : List Int), j ≤ L.length → L.length + 1 ≤ j + k → g.length ≤ 1 → (∀ z ∈ g, 1 ≤ z) → -100000 ≤ n → n ≤ 100000 + 100000 * j →
    m_cantonref07_Tree_l4 rec L x (i : Int) k acc n (j : Int) (hd0 g) = if (g ++ mtL (key x) (L.drop j)).length ≤ 1 then (m_cantonref06_Put acc (setT x (g ++ mtL (key x) (L.drop j)))).bind fun u => rec u (n + (mtL (key x) (L.drop j)).length) ((i + 1 : Nat) : Int) else some ([], false)
  | 0, j, n, g, _, h, _, _, _, _ => by omega
  | k + 1, j, n, g, h0, h, hg, hp, hn0, hn => by
    have hlen := O.len
    rw [m_cantonref07_Tree_l4]
    by_cases hj : j < L.length
    · have hmem := List.getElem_mem hj
      have hT := O.lt _ hmem
      rw [if_pos (by simpa using hj)]
      have hml := mtS_len (key x) (L[j]).Turns
      have h5 := rtree_l5 L j L[j] (List.getElem?_eq_getElem hj) (O.ok _ hmem) (by omega) (m_cantonref07_Tree_l4 rec L x (i : Int) k) x acc (by omega) 3002 0 n g (by omega) (by omega) hg hp (by omega) (by omega)
      refine Eq.trans h5 ?_
      rw [List.drop_zero]
      have e : mtL (key x) (L.drop j) = mtS (key x) (L[j]).Turns ++ mtL (key x) (L.drop (j + 1)) := by
        rw [List.drop_eq_getElem_cons hj]; rfl
      by_cases c : (g ++ mtS (key x) (L[j]).Turns).length ≤ 1
      · rw [if_pos c]
        have := rtree_l4 L O rec x acc i hi k (j + 1) (n + (mtS (key x) (L[j]).Turns).length) (g ++ mtS (key x) (L[j]).Turns) (by omega) (by omega) c (fun z hz => by
          rcases List.mem_append.1 hz with h | h
          · exact hp z h
          · exact mt_pos O (key x) z (List.mem_flatMap.2 ⟨_, hmem, h⟩)) (by omega) (by omega)
        refine Eq.trans this ?_
        rw [e, List.append_assoc, show (mtS (key x) (L[j]).Turns ++ mtL (key x) (L.drop (j + 1))).length = (mtS (key x) (L[j]).Turns).length + (mtL (key x) (L.drop (j + 1))).length from List.length_append]
        simp only [Int.natCast_add, Int.add_assoc]
      · rw [if_neg c, if_neg (by rw [e]; simp only [List.length_append] at c ⊢; omega)]
    · rw [if_neg (by simpa using hj), List.drop_eq_nil_of_le (by omega), inc1 (by omega)]
      rw [show mtL (key x) [] = [] from rfl, List.append_nil, if_pos hg]
      simp [setT]
/-- one node more: none, if it is there, or has two turns. -/
def addN (L : List Sto) (z : List Nd × Nat) (x : Nd) : Option (List Nd × Nat) := if (z.1.find? (isK (key x))).isSome = true then none else if (mtL (key x) L).length ≤ 1 then some (insS (setT x (mtL (key x) L)) z.1, z.2 + (mtL (key x) L).length) else none
def addAll (L : List Sto) : List Nd → List Nd × Nat → Option (List Nd × Nat)
  | [], z => some z
  | x :: l, z => (addN L z x).bind (addAll L l)
theorem addN_ok {L : List Sto} {z y : List Nd × Nat} {x : Nd} (h : addN L z x = some y) : z.1.find? (isK (key x)) = none ∧ (mtL (key x) L).length ≤ 1 ∧ y = (insS (setT x (mtL (key x) L)) z.1, z.2 + (mtL (key x) L).length) := by
  unfold addN at h
  split at h
  · cases h
  · rename_i c
    split at h
    · cases h
      refine ⟨?_, by assumption, rfl⟩
      rcases opt2 (z.1.find? (isK (key x))) with e | ⟨u, e⟩
      · exact e
      · rw [e] at c; exact absurd rfl c
    · cases h
theorem none_ne {l : List Nd} {p : List UInt8} (h : l.find? (isK p) = none) : ∀ y ∈ l, key y ≠ p := fun y hy e => by
  have := List.find?_eq_none.1 h y hy
  simp [isK, e] at this
theorem rtree_l3 (L : List Sto) (O : OkL L) (j : Nat) (s : Sto) (hj : L[j]? = some s) (rec : List Nd → Int → Int → Option (List Nd × Bool)) (T : Nat) : ∀ (k i : Nat) (acc : List Nd) (n : Nat), i ≤ s.Nodes.length → s.Nodes.length + 1 ≤ i + k → acc.Pairwise (key · < key ·) → acc.length + (s.Nodes.length - i) ≤ 6000 → n + (s.Nodes.length - i) ≤ 6000 → T ≤ 6000 →
    m_cantonref07_Tree_l3 rec L (j : Int) k acc ((n : Int) - T) (i : Int) = match addAll L (s.Nodes.drop i) (acc, n) with | none => some ([], false) | some z => rec z.1 ((z.2 : Int) - ((T + s.Turns.length : Nat) : Int)) ((j + 1 : Nat) : Int)
  | 0, i, acc, n, _, h, _, _, _, _ => by omega
  | k + 1, i, acc, n, h0, h, hs, ha, hn, hT => by
    have hij : idx L (j : Int) = some s := by rw [← hj]; simp [idx]
    have hjl : j < L.length := by
      rcases Nat.lt_or_ge j L.length with h | h
      · exact h
      · rw [List.getElem?_eq_none h] at hj; cases hj
    have hmem : s ∈ L := List.mem_of_getElem? hj
    have l3 := O.ln s hmem
    have l4 := O.lt s hmem
    have l5 := O.len
    rw [m_cantonref07_Tree_l3, hij]
    simp only [Option.bind_some]
    by_cases hi : i < s.Nodes.length
    · rw [if_pos (by simpa using hi), idx_lt hi, List.drop_eq_getElem_cons hi]
      simp only [Option.bind_some]
      rw [rFind_eq _ _ (by omega)]
      simp only [Option.bind_some]
      rw [show bl (s.Nodes[i]).Path = key s.Nodes[i] from rfl, addAll]
      unfold addN
      rcases opt2 (acc.find? (isK (key s.Nodes[i]))) with e | ⟨u, e⟩
      · rw [fnd_none e, e, if_neg (by simp), if_neg (by simp)]
        have h4 := rtree_l4 L O (m_cantonref07_Tree_l3 rec L (j : Int) k) s.Nodes[i] acc i (by omega) (((L.length : Int) - 0 : Int).toNat + 1) 0 ((n : Int) - T) [] (by omega) (by omega) (by simp) (by simp) (by omega) (by omega)
        refine Eq.trans h4 ?_
        rw [List.drop_zero, List.nil_append]
        by_cases c : (mtL (key s.Nodes[i]) L).length ≤ 1
        · rw [if_pos c, if_pos c, Put_eq _ _ (by omega) hs, put_new (x := setT s.Nodes[i] (mtL (key s.Nodes[i]) L)) (none_ne e)]
          simp only [Option.bind_some]
          have hil := ins_len (setT s.Nodes[i] (mtL (key s.Nodes[i]) L)) acc
          have := rtree_l3 L O j s hj rec T k (i + 1) (insS (setT s.Nodes[i] (mtL (key s.Nodes[i]) L)) acc) (n + (mtL (key s.Nodes[i]) L).length) (by omega) (by omega) (ins_sorted (x := setT s.Nodes[i] (mtL (key s.Nodes[i]) L)) hs e) (by omega) (by omega) hT
          rw [← this]
          congr 1
          omega
        · rw [if_neg c, if_neg c]; rfl
      · rw [fnd_some e, e, if_pos rfl]; rfl
    · rw [if_neg (by simpa using hi), List.drop_eq_nil_of_le (by omega)]
      rw [inc1 (by omega), w64 (by omega) (by omega)]
      show rec acc _ _ = rec acc _ _
      congr 1
      omega
theorem addAll_len {L : List Sto} : ∀ {l : List Nd} {z y : List Nd × Nat}, addAll L l z = some y → y.1.length = z.1.length + l.length ∧ y.2 ≤ z.2 + l.length
  | [], z, y, h => by cases h; simp
  | x :: l, z, y, h => by
    obtain ⟨u, h1, h2⟩ := Option.bind_eq_some_iff.1 h
    obtain ⟨_, h3, rfl⟩ := addN_ok h1
    have := addAll_len h2
    simp only [ins_len, List.length_cons] at this ⊢
    omega
theorem addAll_sorted {L : List Sto} : ∀ {l : List Nd} {z y : List Nd × Nat}, addAll L l z = some y → z.1.Pairwise (key · < key ·) → y.1.Pairwise (key · < key ·)
  | [], z, y, h, hs => by cases h; exact hs
  | x :: l, z, y, h, hs => by
    obtain ⟨u, h1, h2⟩ := Option.bind_eq_some_iff.1 h
    obtain ⟨h0, h3, rfl⟩ := addN_ok h1
    exact addAll_sorted h2 (ins_sorted (x := setT x (mtL (key x) L)) hs h0)
theorem addAll_app (L : List Sto) : ∀ (l m : List Nd) (z : List Nd × Nat), addAll L (l ++ m) z = (addAll L l z).bind (addAll L m)
  | [], m, z => rfl
  | x :: l, m, z => by
    show (addN L z x).bind (addAll L (l ++ m)) = ((addN L z x).bind (addAll L l)).bind (addAll L m)
    cases addN L z x with
    | none => rfl
    | some u => exact addAll_app L l m u
def rEnd (z : List Nd × Nat) (m : Nat) : Option (List Nd × Bool) := if z.2 ≠ m then some ([], false) else (m_cantonref06_Right z.1).bind fun b => if b = true then some (z.1, true) else some ([], false)
theorem rtree_end (l : List Nd) (n m : Nat) (hn : n ≤ 10000) (hm : m ≤ 10000) : (if ((n : Int) - m != 0) = true then m_cantonref07_Tree_j2 l true else (m_cantonref06_Right l).bind fun u107 => m_cantonref07_Tree_j2 l (!u107)) = rEnd (l, n) m := by
  unfold rEnd m_cantonref07_Tree_j2
  by_cases c : n = m
  · rw [if_neg (by simp; omega), if_neg (by simpa using c)]
    congr 1
    funext b
    cases b <;> rfl
  · rw [if_pos (by simp; omega), if_pos c]; rfl
theorem rtree_two (a b : Sto) (O : OkL [a, b]) : m_cantonref07_Tree [a, b] = match addAll [a, b] (a.Nodes ++ b.Nodes) ([], 0) with | none => some ([], false) | some z => rEnd z (a.Turns.length + b.Turns.length) := by
  have a1 := O.ln a (by simp)
  have a2 := O.lt a (by simp)
  have b1 := O.ln b (by simp)
  have b2 := O.lt b (by simp)
  obtain ⟨x, g1, g2⟩ := rRightS_eq a (O.sm a (by simp))
  obtain ⟨y, g3, g4⟩ := rRightS_eq b (O.sm b (by simp))
  unfold m_cantonref07_Tree
  rw [show (((([a, b] : List Sto).length : Int) - 0 : Int).toNat + 1) = 3 from rfl, m_cantonref07_Tree_l1, if_pos (by simp), show idx [a, b] 0 = some a from rfl]
  simp only [Option.bind_some]
  rw [g1, g2.2 (O.ok a (by simp))]
  simp only [Option.bind_some]
  rw [if_neg (by simp), show IntKind.i64.wrap (0 + 1) = 1 from rfl, m_cantonref07_Tree_l1, if_pos (by simp), show idx [a, b] 1 = some b from rfl]
  simp only [Option.bind_some]
  rw [g3, g4.2 (O.ok b (by simp))]
  simp only [Option.bind_some]
  rw [if_neg (by simp), show IntKind.i64.wrap (1 + 1) = 2 from rfl, m_cantonref07_Tree_l1, if_neg (by simp), show (((([a, b] : List Sto).length : Int) - 0 : Int).toNat + 1) = 3 from rfl, m_cantonref07_Tree_l2, if_pos (by simp)]
  have h1 := rtree_l3 [a, b] O 0 a rfl (m_cantonref07_Tree_l2 [a, b] 2) 0 3002 0 [] 0 (by omega) (by omega) List.Pairwise.nil (by simp; omega) (by omega) (by omega)
  refine Eq.trans h1 ?_
  rw [List.drop_zero, addAll_app]
  cases e : addAll [a, b] a.Nodes ([], 0) with
  | none => rfl
  | some z =>
    have z1 := addAll_len e
    have z2 := addAll_sorted e List.Pairwise.nil
    simp only [List.length_nil, Nat.zero_add] at z1
    simp only [Option.bind_some]
    rw [m_cantonref07_Tree_l2, if_pos (by simp)]
    have h2 := rtree_l3 [a, b] O 1 b rfl (m_cantonref07_Tree_l2 [a, b] 1) (0 + a.Turns.length) 3002 0 z.1 z.2 (by omega) (by omega) z2 (by omega) (by omega) (by omega)
    refine Eq.trans h2 ?_
    rw [List.drop_zero]
    cases e2 : addAll [a, b] b.Nodes (z.1, z.2) with
    | none => rfl
    | some u =>
      have u1 := addAll_len e2
      simp only at u1 ⊢
      rw [m_cantonref07_Tree_l2, if_neg (by simp), Nat.zero_add]
      exact rtree_end u.1 u.2 _ (by omega) (by omega)
theorem rtree_two_bad (a b : Sto) (ha : SmS a) (hb : SmS b) (S : ¬ (StoreOk a ∧ StoreOk b)) : m_cantonref07_Tree [a, b] = some ([], false) := by
  obtain ⟨x, g1, g2⟩ := rRightS_eq a ha
  obtain ⟨y, g3, g4⟩ := rRightS_eq b hb
  unfold m_cantonref07_Tree
  rw [show (((([a, b] : List Sto).length : Int) - 0 : Int).toNat + 1) = 3 from rfl, m_cantonref07_Tree_l1, if_pos (by simp), show idx [a, b] 0 = some a from rfl]
  simp only [Option.bind_some]
  rw [g1]
  simp only [Option.bind_some]
  cases x with
  | false => rfl
  | true =>
    rw [if_neg (by simp), show IntKind.i64.wrap (0 + 1) = 1 from rfl, m_cantonref07_Tree_l1, if_pos (by simp), show idx [a, b] 1 = some b from rfl]
    simp only [Option.bind_some]
    rw [g3, show y = false from by cases y with | false => rfl | true => exact absurd ⟨g2.1 rfl, g4.1 rfl⟩ S]
    rfl
end Go.Cb
