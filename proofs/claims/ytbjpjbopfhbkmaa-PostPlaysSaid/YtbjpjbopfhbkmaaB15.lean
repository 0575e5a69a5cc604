/- Base 15: regions that draw their order, of which two that write may come one ahead of the other. -/
import Derived.Test.YtbjpjbopfhbkmaaB14
set_option linter.unusedVariables false
set_option linter.unusedSimpArgs false
namespace Go.Cb
open Go.RowKit
/-- the orders: go i 0: it only reads or reckons; go i 1: it turns the world; go i 2: it turns it, and comes behind all that only read; alt: either first. -/
inductive OT where
  | nil
  | go (i k : Nat) (t : OT)
  | alt (i : Nat) (t : OT) (j : Nat) (u : OT)
section
variable {P : Program} {ops : Array Oper} {Q : Exit → Act → World → Prop} {I : World → Prop} {T : Nat → Bool}
def OT.ok (ops : Array Oper) : OT → Array Bool → Bool
  | .nil, listed => (Region.ready .any ops listed).isEmpty
  | .go i 0 t, listed => (Region.ready .any ops listed).contains i && Region.free .any ops listed i && t.ok ops (listed.setIfInBounds i true)
  | .go i (_ + 1) t, listed => (Region.ready .any ops listed == [i]) && t.ok ops (listed.setIfInBounds i true)
  | .alt i t j u, listed => (Region.ready .any ops listed == [i, j]) && t.ok ops (listed.setIfInBounds i true) && u.ok ops (listed.setIfInBounds j true)
def OT.len : OT → Nat → Bool
  | .nil, 0 => true
  | .go _ _ t, m + 1 => t.len m
  | .alt _ t _ u, m + 1 => t.len m && u.len m
  | _, _ => false
def OT.noFree : OT → Bool
  | .nil => true
  | .go _ k t => k != 0 && t.noFree
  | .alt _ t _ u => t.noFree && u.noFree
def OT.tails (ops : Array Oper) (tl : List Nat) : OT → Bool
  | .nil => true
  | .go i 0 t => !tl.contains i && ((List.range ops.size).all fun j => !tl.contains j || match ops[j]? with | some y => y.after.any fun e => Region.binds .any e && e.on == i | none => true) && t.tails ops tl
  | .go _ 1 t => t.tails ops tl
  | .go i (k + 2) t => tl.contains i && t.noFree && t.tails ops tl
  | .alt _ t _ u => t.tails ops tl && u.tails ops tl
def wpOT (P : Program) (I : World → Prop) (ops : Array Oper) (Q : Exit → Act → World → Prop) : OT → Act → World → Prop
  | .nil, a, w => Q .normal a w
  | .go i 0 t, a, w => ∃ o, ops[i]? = some o ∧ ∃ v, Yl P I ops o v a ∧ wpOT P I ops Q t (a.put o.dst v) w
  | .go i 1 t, a, w => ∃ o, ops[i]? = some o ∧ wpList P ops (Exit.then (fun a' w' => I w' ∧ wpOT P I ops Q t a' w') Q) [o] a w
  | .go i (_ + 2) t, a, w => ∃ o, ops[i]? = some o ∧ wpList P ops (Exit.then (fun a' w' => wpOT P I ops Q t a' w') Q) [o] a w
  | .alt i t j u, a, w => (∃ o, ops[i]? = some o ∧ wpList P ops (Exit.then (fun a' w' => I w' ∧ wpOT P I ops Q t a' w') Q) [o] a w) ∧ (∃ o, ops[j]? = some o ∧ wpList P ops (Exit.then (fun a' w' => I w' ∧ wpOT P I ops Q u a' w') Q) [o] a w)
theorem wpOT_any (tl : List Nat) (hs : Region.noSelect ops = true) (hQ : ∀ c a w, Q (.panic c) a w → False) : ∀ (t : OT) (m : Nat) (listed : Array Bool) (a : Act) (w : World),
    (t.noFree = true ∨ I w) → t.tails ops tl = true → t.len m = true → t.ok ops listed = true → wpOT P I ops Q t a w → wpAnyI P I (fun i => tl.contains i) ops Q m listed a w
  | .nil, m, listed, a, w, _, _, hm, ho, h => by
    cases m with
    | zero => exact ⟨by simpa [OT.ok] using ho, h⟩
    | succ m => cases hm
  | .go i 0 t, m, listed, a, w, hI, ht, hm, ho, h => by
    cases m with
    | zero => cases hm
    | succ m =>
      simp only [OT.ok, Bool.and_eq_true] at ho
      obtain ⟨⟨hr, hf⟩, ho⟩ := ho
      simp only [OT.tails, Bool.and_eq_true] at ht
      obtain ⟨⟨ht1, ht2⟩, ht3⟩ := ht
      obtain ⟨o, hi, v, hy, h⟩ := h
      have hIw : I w := hI.resolve_left (by simp [OT.noFree])
      refine wpAnyI_first hi (Region.noSelect_spec hs) hQ (fun j y hj hTj => ?_) (by simpa using ht1) m listed a w (fun j y hj hne hun hno => Region.free_spec hi hf j y hj hne hun hno) (by simpa using hr) hIw hy
        (wpOT_any tl hs hQ t m _ _ w (.inr hIw) ht3 hm ho h)
      have hq := (List.all_eq_true.1 ht2) j (List.mem_range.2 (Array.getElem?_eq_some_iff.1 hj).1)
      rw [hTj, hj] at hq
      simp only [Bool.not_true, Bool.false_or] at hq
      obtain ⟨e, he, hb⟩ := Array.any_eq_true'.1 hq
      simp only [Bool.and_eq_true, beq_iff_eq] at hb
      exact ⟨e, he, hb⟩
  | .go i 1 t, m, listed, a, w, hI, ht, hm, ho, h => by
    cases m with
    | zero => cases hm
    | succ m =>
      simp only [OT.ok, Bool.and_eq_true, beq_iff_eq] at ho
      obtain ⟨hr, ho⟩ := ho
      obtain ⟨o, hi, h⟩ := h
      refine ⟨fun h0 => (by rw [hr] at h0; cases h0), fun j hj => ?_⟩
      rw [hr] at hj
      simp at hj
      subst hj
      exact wpOp_mono (fun a' w' h' => ⟨.inr h'.1, wpOT_any tl hs hQ t m _ _ _ (.inr h'.1) ht hm ho h'.2⟩) (wpList_op hi h)
  | .go i (k + 2) t, m, listed, a, w, hI, ht, hm, ho, h => by
    cases m with
    | zero => cases hm
    | succ m =>
      simp only [OT.ok, Bool.and_eq_true, beq_iff_eq] at ho
      obtain ⟨hr, ho⟩ := ho
      simp only [OT.tails, Bool.and_eq_true] at ht
      obtain ⟨⟨ht1, ht2⟩, ht3⟩ := ht
      obtain ⟨o, hi, h⟩ := h
      refine ⟨fun h0 => (by rw [hr] at h0; cases h0), fun j hj => ?_⟩
      rw [hr] at hj
      simp at hj
      subst hj
      exact wpOp_mono (fun a' w' h' => ⟨.inl ht1, wpOT_any tl hs hQ t m _ _ _ (.inl ht2) ht3 hm ho h'⟩) (wpList_op hi h)
  | .alt i t j u, m, listed, a, w, hI, ht, hm, ho, h => by
    cases m with
    | zero => cases hm
    | succ m =>
      simp only [OT.ok, Bool.and_eq_true, beq_iff_eq] at ho
      obtain ⟨⟨hr, ho1⟩, ho2⟩ := ho
      simp only [OT.tails, Bool.and_eq_true] at ht
      simp only [OT.len, Bool.and_eq_true] at hm
      obtain ⟨⟨o1, hi1, h1⟩, ⟨o2, hi2, h2⟩⟩ := h
      refine ⟨fun h0 => (by rw [hr] at h0; cases h0), fun q hq => ?_⟩
      rw [hr] at hq
      rcases List.mem_cons.1 hq with rfl | hq
      · exact wpOp_mono (fun a' w' h' => ⟨.inr h'.1, wpOT_any tl hs hQ t m _ _ _ (.inr h'.1) ht.1 hm.1 ho1 h'.2⟩) (wpList_op hi1 h1)
      · rcases List.mem_cons.1 hq with rfl | hq
        · exact wpOp_mono (fun a' w' h' => ⟨.inr h'.1, wpOT_any tl hs hQ u m _ _ _ (.inr h'.1) ht.2 hm.2 ho2 h'.2⟩) (wpList_op hi2 h2)
        · cases hq
def OT.all (ops : Array Oper) (tl : List Nat) (t : OT) : Bool := Region.noSelect ops && t.ok ops (Array.replicate ops.size false) && t.len ops.size && t.tails ops tl
theorem wp_drawT {id : Nat} {a : Act} {w : World} (I : World → Prop) (t : OT) (tl : List Nat) (hm : P.follows .mixedOrders = true) (ho : t.all ops tl = true)
    (hQ : ∀ c a w, Q (.panic c) a w → False) (hI : I { w with drawn := w.drawn + 1 }) (h : wpOT P I ops Q t a { w with drawn := w.drawn + 1 }) : (Code.region id ops true).wp P Q a w := by
  simp only [OT.all, Bool.and_eq_true] at ho
  obtain ⟨⟨⟨h1, h2⟩, h3⟩, h4⟩ := ho
  exact wp_region_any hm (wpAnyI_any _ _ _ _ (wpOT_any tl h1 hQ t ops.size _ a _ (.inr hI) h4 h3 h2 h))
variable {t u : OT} {o : Oper} {a : Act} {w : World} {n : Nat} {env : List (Nat × Value)} {i j : Nat}
theorem ot_nil (h : Q .normal a w) : wpOT P I ops Q .nil a w := h
theorem ot_val (E : Env n a env) (hi : ops[i]? = some o) (hw : Region.wanted o (yielded ops a.tmps) = true) {d : Nat} (hd : o.dst = some d) (hdn : Nat.ble (d + 1) n = true) {v : Value}
    (hrun : ∀ w, I w → (execOp a.eval o).run P w = .ok (.value v) w) (k : ∀ a', Env n a' ((d, v) :: env) → wpOT P I ops Q t a' w) : wpOT P I ops Q (.go i 0 t) a w :=
  ⟨o, hi, v, .inl ⟨hw, hrun⟩, by rw [hd]; exact k _ (E.put d hdn v)⟩
theorem ot_no (E : Env n a env) (hi : ops[i]? = some o) (hw : Region.wanted o (yielded ops a.tmps) = false) {d : Nat} (hd : o.dst = some d) (hdn : Nat.ble (d + 1) n = true)
    (k : ∀ a', Env n a' ((d, undef) :: env) → wpOT P I ops Q t a' w) : wpOT P I ops Q (.go i 0 t) a w :=
  ⟨o, hi, undef, .inr ⟨hw, rfl⟩, by rw [hd]; exact k _ (E.put d hdn undef)⟩
theorem ot_op (hi : ops[i]? = some o) (h : wpList P ops (Exit.then (fun a' w' => I w' ∧ wpOT P I ops Q t a' w') Q) [o] a w) : wpOT P I ops Q (.go i 1 t) a w := ⟨o, hi, h⟩
theorem ot_tail (hi : ops[i]? = some o) (h : wpList P ops (Exit.then (fun a' w' => wpOT P I ops Q t a' w') Q) [o] a w) : wpOT P I ops Q (.go i 2 t) a w := ⟨o, hi, h⟩
theorem ot_alt {o1 o2 : Oper} (hi : ops[i]? = some o1) (hj : ops[j]? = some o2) (h1 : wpList P ops (Exit.then (fun a' w' => I w' ∧ wpOT P I ops Q t a' w') Q) [o1] a w) (h2 : wpList P ops (Exit.then (fun a' w' => I w' ∧ wpOT P I ops Q u a' w') Q) [o2] a w) : wpOT P I ops Q (.alt i t j u) a w := ⟨⟨o1, hi, h1⟩, ⟨o2, hj, h2⟩⟩
end
end Go.Cb
