/- Parts, plainly: the document's Do; what is made is right. -/
import Derived.Test.YtgdfoajophpblaaGreatDoorV5pp
set_option linter.unusedVariables false
set_option linter.unusedSimpArgs false
namespace Go.Cb
open Go.Proofs Go.RowKit

/-! ### Empty, Names, Clear -/
/-! ### what is made is right -/
theorem gins_sorted {α : Type} (κ : α → List UInt8) (l : List α) (d : List UInt8) (x : α) (hx : κ x = d) (hs : l.Pairwise (κ · < κ ·)) : (l.filter (gLt κ d) ++ x :: l.filter (gGt κ d)).Pairwise (κ · < κ ·) := by
  have g : ∀ y ∈ l.filter (gGt κ d), d < κ y := fun y hy => by
    have h1 := (List.mem_filter.1 hy).2
    simp only [gGt, gLt, gEq, Bool.and_eq_true, Bool.not_eq_true', decide_eq_false_iff_not] at h1
    exact kl_not h1.1 h1.2
  have f : ∀ y ∈ l.filter (gLt κ d), κ y < d := fun y hy => by
    have h1 := (List.mem_filter.1 hy).2
    simpa [gLt] using h1
  refine List.pairwise_append.2 ⟨hs.filter _, List.pairwise_cons.2 ⟨fun y hy => hx ▸ g y hy, hs.filter _⟩, fun a ha b hb => ?_⟩
  rcases List.mem_cons.1 hb with rfl | hb
  · exact hx ▸ f a ha
  · exact kl_trans (f a ha) (g b hb)
theorem setTurn_sorted {l : List Tn} (hs : l.Pairwise (tkey · < tkey ·)) (d : List UInt8) (n : Int) : (setTurn l d n).Pairwise (tkey · < tkey ·) := by
  unfold setTurn
  split
  · exact hs.filter _
  · exact gins_sorted tkey l d _ rfl hs
theorem setTurn_mem {l : List Tn} {d : List UInt8} {n : Int} {t : Tn} (h : t ∈ setTurn l d n) : t ∈ l ∨ (t = ⟨mk d, n⟩ ∧ n ≠ 0) := by
  unfold setTurn at h
  split at h
  · exact .inl (List.mem_filter.1 h).1
  · rcases List.mem_append.1 h with h | h
    · exact .inl (List.mem_filter.1 h).1
    · rcases List.mem_cons.1 h with h | h
      · exact .inr ⟨h, by assumption⟩
      · exact .inl (List.mem_filter.1 h).1
theorem gsplit_len {α : Type} (κ : α → List UInt8) (l : List α) (d : List UInt8) : (l.filter (gLt κ d)).length + (l.filter (gGt κ d)).length ≤ l.length := by
  induction l with
  | nil => simp
  | cons x l ih =>
    rw [List.filter_cons, List.filter_cons]
    by_cases a : κ x < d
    · rw [if_pos (by simpa [gLt] using a), if_neg (by simp [gGt, gLt, a])]; simp; omega
    · rw [if_neg (by simpa [gLt] using a)]
      split <;> simp <;> omega
theorem setTurn_len (l : List Tn) (d : List UInt8) (n : Int) : (setTurn l d n).length ≤ l.length + 1 := by
  unfold setTurn
  split
  · have := List.length_filter_le (fun t => !gEq tkey d t) l; omega
  · have := gsplit_len tkey l d
    simp; omega
theorem ins_sorted {l : List Nd} {x : Nd} (hs : l.Pairwise (key · < key ·)) (hn : l.find? (isK (key x)) = none) : (insS x l).Pairwise (key · < key ·) := by
  rw [← ins_split hs hn]
  exact gins_sorted key l _ x rfl hs
theorem StoreOk.mk' {s : Sto} {l : List Nd} (S : StoreOk s) (h1 : ∀ x ∈ l, pnB x = true) (h2 : l.Pairwise (key · < key ·)) : StoreOk ⟨l, s.Turns⟩ := ⟨List.all_eq_true.2 h1, h2, S.turns, S.tsort⟩
theorem doP_ok (s : Sto) (p : Pt1) (S : StoreOk s) (hm : mayP p = true) : StoreOk (doP s p).1 ∧ (doP s p).1.Nodes.length ≤ s.Nodes.length + 1 ∧ (doP s p).1.Turns.length ≤ s.Turns.length + 1 ∧ (doP s p).2.Names.length ≤ s.Nodes.length := by
  have hS : StoreOk s ∧ s.Nodes.length ≤ s.Nodes.length + 1 ∧ s.Turns.length ≤ s.Turns.length + 1 ∧ ([] : List ByteArray).length ≤ s.Nodes.length := ⟨S, by omega, by omega, by simp⟩
  have hN := fun x hx => List.all_eq_true.1 S.nodes x hx
  have hfl : ∀ f : Nd → Bool, StoreOk ⟨s.Nodes.filter f, s.Turns⟩ := fun f => S.mk' (fun x hx => hN x (List.mem_filter.1 hx).1) (S.nsort.filter _)
  have hf := (mayP_iff hm).1
  unfold fieldsB at hf
  simp only [Bool.and_eq_true, decide_eq_true_eq] at hf
  unfold doP
  split
  · rename_i c
    obtain ⟨q, hq⟩ := mayP_parent hm c
    have hu : upP (bl p.Path) = q := by unfold upP; rw [hq]; rfl
    unfold putP
    rw [hu]
    cases hn : nameS (pop p) q (turnOf s.Turns q) with
    | none => exact hS
    | some t =>
      obtain ⟨n1, n2⟩ := name_parent (o := pop p) hq hn
      simp only
      split
      · exact hS
      · rename_i hne
        have hfn : s.Nodes.find? (isK t) = none := by
          rcases opt2 (s.Nodes.find? (isK t)) with h | ⟨x, h⟩
          · exact h
          · rw [h] at hne; exact absurd rfl hne
        obtain ⟨ps, a, hp1, _⟩ := parts_q n1
        have tok : pathOk t = true := by unfold pathOk; rw [hp1]; rfl
        obtain ⟨_, _, _, _, hp2, _⟩ := parts_q hq
        have qok : pathOk q = true := by unfold pathOk; rw [hp2]; rfl
        have hns : StoreOk ⟨insS ⟨mk t, p.Data, 0, 0, p.Owner⟩ s.Nodes, s.Turns⟩ := S.mk' (fun x hx => by
            rcases mem_ins.1 hx with rfl | hx
            · unfold pnB fieldsB
              simp only [bl_mk, tok]
              simp
              exact ⟨hf.1.1.2, hf.2⟩
            · exact hN x hx) (ins_sorted (x := (⟨mk t, p.Data, 0, 0, p.Owner⟩ : Nd)) S.nsort hfn)
        have hil := ins_len (⟨mk t, p.Data, 0, 0, p.Owner⟩ : Nd) s.Nodes
        cases hT : p.Turns with
        | false => exact ⟨hns, by simp only; omega, by simp, by simp [res]⟩
        | true =>
          have n3 := n2 hT
          refine ⟨⟨hns.nodes, hns.nsort, List.all_eq_true.2 fun y hy => ?_, setTurn_sorted S.tsort _ _⟩, by simp only; omega, setTurn_len _ _ _, by simp [res]⟩
          rcases setTurn_mem hy with hy | ⟨rfl, _⟩
          · exact List.all_eq_true.1 S.turns y hy
          · unfold ptB
            simp only [tkey, bl_mk, qok, Bool.true_and, decide_eq_true_eq]
            omega
  split
  · split
    · exact hS
    · refine ⟨⟨S.nodes, S.nsort, List.all_eq_true.2 fun y hy => ?_, setTurn_sorted S.tsort (bl p.Path) 0⟩, by simp, setTurn_len s.Turns (bl p.Path) 0, by simp [res]⟩
      rcases setTurn_mem (show y ∈ setTurn s.Turns (bl p.Path) 0 from hy) with hy | ⟨rfl, h⟩
      · exact List.all_eq_true.1 S.turns y hy
      · exact absurd rfl h
  split
  · exact ⟨S, by simp, by simp, by simp only [List.length_map]; exact List.length_filter_le _ _⟩
  split
  · exact ⟨hfl _, Nat.le_succ_of_le (List.length_filter_le _ _), by simp, by simp only [List.length_map]; exact List.length_filter_le _ _⟩
  split
  · exact hS
  rename_i e0
  split
  · exact hS
  split
  · exact ⟨hfl _, Nat.le_succ_of_le (List.length_filter_le _ _), by simp, by simp [res]⟩
  split
  · split
    · exact hS
    · rename_i hv
      refine ⟨S.mk' (fun x hx => ?_) (upd_sorted S.nsort _ (fun z => rfl)), by simp only [upd_len]; omega, by simp, by simp [res]⟩
      obtain ⟨z, hz, rfl⟩ := mem_upd.1 hx
      have hzb := hN z hz
      split
      · rename_i hk
        have hkz : key z = bl p.Path := by simpa [isK] using hk
        have hnd : ndS s.Nodes p = (z, 0) := by
          have h1 := find_mem S.nsort hz
          rw [hkz] at h1
          unfold ndS at e0 ⊢
          rw [h1] at e0 ⊢
          simp only at e0 ⊢
          split at e0
          · exact absurd (show (63 : Int) ≠ 0 by decide) e0
          · rw [if_neg (by assumption)]
        rw [hnd] at hv
        have h2 := store_ver S z hz
        simp only at hv
        have he : pnB (altF p z) = (decide (z.Turn = 0) && fieldsB z.Path p.Data (z.Version + 1) 0 z.Owner) := rfl
        rw [he]
        unfold pnB at hzb
        unfold fieldsB at hzb ⊢
        simp only [Bool.and_eq_true, decide_eq_true_eq] at hzb ⊢
        exact ⟨hzb.1, ⟨⟨hzb.2.1.1.1, by omega⟩, by omega⟩, hzb.2.2⟩
      · exact hzb
  split
  · exact hS
  split
  · exact hS
  · exact hS
theorem pathOk_len {p : List UInt8} (h : pathOk p = true) : p.length ≤ 78 := by
  unfold pathOk at h
  obtain ⟨ps, hp⟩ := Option.isSome_iff_exists.1 h
  exact parts_len hp
theorem StoreOk.sms {s : Sto} (S : StoreOk s) (h1 : s.Nodes.length ≤ 90000) (h2 : s.Turns.length ≤ 90000) : SmS s := by
  refine ⟨fun x hx => ?_, fun t ht => ?_, h1, h2⟩
  · have := List.all_eq_true.1 S.nodes x hx
    unfold pnB fieldsB at this
    simp only [Bool.and_eq_true] at this
    have := pathOk_len this.2.1.1.1
    have e : (bl x.Path).length = (key x).length := rfl
    omega
  · have := List.all_eq_true.1 S.turns t ht
    unfold ptB at this
    simp only [Bool.and_eq_true] at this
    have := pathOk_len this.1
    omega
end Go.Cb
