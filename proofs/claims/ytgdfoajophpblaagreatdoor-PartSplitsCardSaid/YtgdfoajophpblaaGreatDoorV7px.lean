/- Parts, plainly: the program's tree of stores; the live question. -/
import Derived.Test.YtgdfoajophpblaaGreatDoorU7px
import Derived.Test.YtgdfoajophpblaaGreatDoorKpx2
import Derived.Test.YtgdfoajophpblaaGreatDoorKpx3
set_option linter.unusedVariables false
set_option linter.unusedSimpArgs false
namespace Go.Cb
open Go.Proofs Go.RowKit

theorem srt_fix {l : List Nd} (hs : l.Pairwise (key · < key ·)) : srtN l = l := by
  have hp := srt_perm l
  have h1 := srt_sorted l
  refine sorted_ext key ?_ hs (fun x => hp.mem_iff)
  have nd : (srtN l).Pairwise (fun a b => key a ≠ key b) := (hp.pairwise_iff (fun h => h.symm)).2 (hs.imp fun h => kl_ne h)
  exact (h1.and nd).imp fun h => kl_not h.1 (fun e => h.2 e.symm)
def putTs (f : List UInt8 → Option Int) (l : List Tn) : List UInt8 → Option Int := l.foldl (fun f t => mputO f (tkey t) t.Next) f
def setTs (f : List UInt8 → Option Int) (l : List Nd) : List Nd := l.map fun x => { x with Turn := (f (key x)).getD 0 }
def cntTs (f : List UInt8 → Option Int) (l : List Nd) : Nat := (l.filter fun x => (f (key x)).isSome).length
theorem ptree_l2 (rec : List Nd → Int → Int → Nat → (List UInt8 → Option Int) → Option (List Nd × Bool)) (s : Sto) (acc : List Nd) (i0 : Nat) (hi0 : i0 ≤ 1000) (hs : SmS s) (S : StoreOk s) : ∀ (k i : Nat) (n m : Nat) (f : List UInt8 → Option Int), i ≤ s.Turns.length → s.Turns.length + 1 ≤ i + k → n ≤ 1000000 + i → m ≤ 1000000 + i →
    m_part_Tree_l2 rec s acc (i0 : Int) k (n : Int) (i : Int) m f = rec (acc ++ s.Nodes) ((n + (s.Turns.length - i) : Nat) : Int) ((i0 + 1 : Nat) : Int) (m + (s.Turns.length - i)) (putTs f (s.Turns.drop i))
  | 0, i, n, m, f, _, h, _, _ => by omega
  | k + 1, i, n, m, f, h0, h, hn, hm => by
    have hl := hs.lent
    rw [m_part_Tree_l2]
    by_cases hi : i < s.Turns.length
    · have h1 := store_next S _ (List.getElem_mem hi)
      have h2 := hs.smt _ (List.getElem_mem hi)
      have hz := bl_size (s.Turns[i]).Dir
      have e0 : (bl (s.Turns[i]).Dir).length = (tkey s.Turns[i]).length := rfl
      rw [if_pos (by simpa using hi), idx_lt hi]
      simp only [Option.bind_some]
      rw [ck_b ⟨by unfold maxLen; omega, by simp [Lit.wf, IntKind.min, IntKind.max, IntKind.bits, IntKind.signed]; omega, by unfold maxLen; omega⟩, inc1 (show n ≤ 1000000000 by omega), inc1 (show i ≤ 1000000000 by omega), ptree_l2 rec s acc i0 hi0 hs S k (i + 1) (n + 1) (m + 1) _ (by omega) (by omega) (by omega) (by omega), List.drop_eq_getElem_cons hi]
      rw [show n + 1 + (s.Turns.length - (i + 1)) = n + (s.Turns.length - i) from by omega, show m + 1 + (s.Turns.length - (i + 1)) = m + (s.Turns.length - i) from by omega]
      rfl
    · rw [if_neg (by simpa using hi), List.drop_eq_nil_of_le (by omega), inc1 (by omega), show s.Turns.length - i = 0 from by omega]
      rfl
def treeEnd (l : List Nd) (f : List UInt8 → Option Int) (m : Nat) : Option (List Nd × Bool) :=
  if cntTs f l ≠ m then some ([], false) else (m_nodes_Right (setTs f l)).bind fun b => if b = true then some (setTs f l, true) else some ([], false)
theorem ptree_l3 (l : List Nd) (f : List UInt8 → Option Int) (m : Nat) (sm : Sm l) (hl : l.length ≤ 1000000) : ∀ (k i : Nat) (cur : List Nd) (n : Nat), i ≤ l.length → l.length + 1 ≤ i + k → cur = setTs f ((srtN l).take i) ++ (srtN l).drop i → n = cntTs f ((srtN l).take i) →
    m_part_Tree_l3 l f (m : Int) k cur (n : Int) (i : Int) = treeEnd (srtN l) f m
  | 0, i, cur, n, _, h, _, _ => by omega
  | k + 1, i, cur, n, h0, h, hc, hn => by
    have hsl := srt_len l
    rw [m_part_Tree_l3]
    unfold m_part_Tree_j1 m_part_Tree_j2
    have htl : (setTs f ((srtN l).take i)).length = i := by unfold setTs; simp; omega
    by_cases hi : i < l.length
    · have hi' : i < (srtN l).length := by omega
      have hg : cur[i]? = some (srtN l)[i] := by
        rw [hc, List.getElem?_append_right (by omega), htl, Nat.sub_self, List.getElem?_drop, Nat.add_zero, List.getElem?_eq_getElem hi']
      have hsm := sm _ ((srt_perm l).mem_iff.1 (List.getElem_mem hi'))
      have hz := bl_size ((srtN l)[i]).Path
      have e0 : (bl ((srtN l)[i]).Path).length = (key (srtN l)[i]).length := rfl
      have hnl : n ≤ i := by
        rw [hn]; unfold cntTs
        exact Nat.le_trans (List.length_filter_le _ _) (by simp; omega)
      rw [if_pos (by simp; omega)]
      obtain ⟨hci, hce⟩ := List.getElem?_eq_some_iff.1 hg
      rw [idx_lt hci, hce]
      simp only [Option.bind_some]
      rw [ck_b (by unfold maxLen; omega), show ((srtN l)[i]).Path.data.toList = key (srtN l)[i] from rfl, inc1 (show i ≤ 1000000000 by omega), inc1 (show n ≤ 1000000000 by omega), Int.toNat_natCast]
      have hset : cur.set i { (srtN l)[i] with Turn := (f (key (srtN l)[i])).getD 0 } = setTs f ((srtN l).take (i + 1)) ++ (srtN l).drop (i + 1) := by
        rw [hc, List.set_append_right _ _ (by omega), htl, Nat.sub_self, List.drop_eq_getElem_cons hi', List.set_cons_zero, List.take_add_one, List.getElem?_eq_getElem hi']
        unfold setTs
        rw [List.map_append, List.append_assoc]
        rfl
      have hcnt : cntTs f ((srtN l).take (i + 1)) = n + if (f (key (srtN l)[i])).isSome = true then 1 else 0 := by
        rw [hn]
        unfold cntTs
        rw [List.take_add_one, List.getElem?_eq_getElem hi', List.filter_append, List.length_append]
        congr 1
        simp only [Option.toList_some, List.filter_cons, List.filter_nil]
        split <;> rfl
      by_cases c : (f (key (srtN l)[i])).isSome = true
      · rw [if_pos c, ptree_l3 l f m sm hl k (i + 1) _ (n + 1) (by omega) (by omega) hset (by rw [hcnt, if_pos c])]
      · rw [if_neg c, ptree_l3 l f m sm hl k (i + 1) _ n (by omega) (by omega) hset (by rw [hcnt, if_neg c]; rfl)]
    · have hi' : i = (srtN l).length := by omega
      have hc' : cur = setTs f (srtN l) := by rw [hc, hi', List.take_length, List.drop_length, List.append_nil]
      have hn' : n = cntTs f (srtN l) := by rw [hn, hi', List.take_length]
      rw [if_neg (by simp; omega)]
      unfold treeEnd
      by_cases c : cntTs f (srtN l) = m
      · rw [if_neg (by simp; omega), if_neg (by simpa using c), hc']
        congr 1
        funext b
        cases b <;> simp
      · rw [if_pos (by simp; omega), if_pos rfl, if_pos c]
theorem tree_one (s : Sto) (hs : SmS s) (S : StoreOk s) : m_part_Tree [s] = treeEnd s.Nodes (putTs (fun _ => none) s.Turns) s.Turns.length := by
  have h1 := hs.len
  have h2 := hs.lent
  unfold m_part_Tree
  rw [show (((([s] : List Sto).length : Int) - 0 : Int).toNat + 1) = 2 from rfl, m_part_Tree_l1]
  obtain ⟨b, g1, g2⟩ := partRight_eq s (by omega) (by omega)
  rw [if_pos (by simp)]
  have e : idx [s] 0 = some s := rfl
  rw [e]
  simp only [Option.bind_some]
  rw [g1, g2.2 S]
  simp only [Option.bind_some]
  rw [if_neg (by simp), ck_b (by simp [LIM]; omega)]
  have := ptree_l2 (m_part_Tree_l1 [s] 1) s [] 0 (by omega) hs S (((s.Turns.length : Int) - 0 : Int).toNat + 1) 0 0 0 (fun _ => none) (by omega) (by omega) (by omega) (by omega)
  refine Eq.trans this ?_
  rw [List.nil_append, Nat.sub_zero, Nat.zero_add, Nat.zero_add, List.drop_zero, m_part_Tree_l1]
  rw [if_neg (by simp), ck_b (by omega)]
  have hsl := srt_len s.Nodes
  have := ptree_l3 s.Nodes (putTs (fun _ => none) s.Turns) s.Turns.length hs.sm (by omega) ((((srtN s.Nodes).length : Int) - 0 : Int).toNat + 1) 0 (srtN s.Nodes) 0 (by omega) (by omega) (by simp [setTs]) (by simp [cntTs])
  refine Eq.trans this ?_
  rw [srt_fix S.nsort]
end Go.Cb
