/- Base 7: regions that draw their order: what only reads (or reckons) goes first. -/
import Derived.Test.YtidapdacihcckaaGreatDoorB6te
import Derived.Orders
set_option linter.unusedVariables false
set_option linter.unusedSimpArgs false
namespace Go.Cb
open Go.RowKit
section
variable {P : Program} {ops : Array Oper} {Q : Exit → Act → World → Prop} {I : World → Prop} {T : Nat → Bool}

/-- o yields v in every world of I. -/
def Yl (P : Program) (I : World → Prop) (ops : Array Oper) (o : Oper) (v : Value) (a : Act) : Prop :=
  (Region.wanted o (yielded ops a.tmps) = true ∧ ∀ w, I w → (execOp a.eval o).run P w = .ok (.value v) w) ∨ (Region.wanted o (yielded ops a.tmps) = false ∧ v = undef)

def wpAnyI (P : Program) (I : World → Prop) (T : Nat → Bool) (ops : Array Oper) (Q : Exit → Act → World → Prop) : Nat → Array Bool → Act → World → Prop
  | 0, listed, a, w => Region.ready .any ops listed = [] ∧ Q .normal a w
  | m + 1, listed, a, w => (Region.ready .any ops listed = [] → Q .normal a w) ∧ ∀ i ∈ Region.ready .any ops listed, wpOp P ops Q i (fun a' w' => (T i = true ∨ I w') ∧ wpAnyI P I T ops Q m (listed.setIfInBounds i true) a' w') a w

theorem wpAnyI_any : ∀ (m : Nat) (listed : Array Bool) (a : Act) (w : World), wpAnyI P I T ops Q m listed a w → wpAny P .any ops Q m listed a w
  | 0, _, _, _, h => h
  | m + 1, listed, a, w, h => ⟨h.1, fun i hi => wpOp_mono (fun a' w' h' => wpAnyI_any m _ a' w' h'.2) (h.2 i hi)⟩

theorem Yl.put {o : Oper} {v : Value} {a : Act} {x : Oper} (hs : ∀ cs b, o.op ≠ .select cs b) (h3 : ∀ d, x.dst = some d → d ∉ o.looksAt ops) (hy : Yl P I ops o v a) (u : Value) : Yl P I ops o v (a.put x.dst u) := by
  unfold Yl at *
  rw [execOp_put o hs a x.dst u h3, wanted_put o a x.dst u h3]
  exact hy
theorem Yl.wpOp {i : Nat} {o : Oper} {v : Value} {a : Act} {w : World} (hi : ops[i]? = some o) (hy : Yl P I ops o v a) (hI : I w) {K : Act → World → Prop} (h : K (a.put o.dst v) w) : wpOp P ops Q i K a w := by
  unfold Go.wpOp
  simp only [hi]
  rcases hy with ⟨hw, hv⟩ | ⟨hw, rfl⟩
  · rw [if_pos hw]; unfold Oper.wp; rw [hv w hI]; exact .inl h
  · rw [if_neg (by rw [hw]; exact Bool.false_ne_true)]; exact h

/-- what is done behind x may be done ahead of it. -/
theorem wpOp_swap {j : Nat} {x y : Oper} {v : Value} (hj : ops[j]? = some y) (hap : x.apart ops y = true) (hsx : ∀ cs b, x.op ≠ .select cs b) (hsy : ∀ cs b, y.op ≠ .select cs b) (hQ : ∀ c a w, Q (.panic c) a w → False)
    {K : Act → World → Prop} {a : Act} {w : World} (hy : Yl P I ops x v a) {J : World → Prop} (h : wpOp P ops Q j (fun a' w' => J w' ∧ K a' w') (a.put x.dst v) w) :
    wpOp P ops Q j (fun a' w' => J w' ∧ (Yl P I ops x v a' ∧ K (a'.put x.dst v) w')) a w := by
  obtain ⟨h1, h2, h3⟩ := Oper.apart_spec hap
  have next : ∀ u w', (J w' ∧ K ((a.put x.dst v).put y.dst u) w') → J w' ∧ (Yl P I ops x v (a.put y.dst u) ∧ K ((a.put y.dst u).put x.dst v) w') := fun u w' hk =>
    ⟨hk.1, hy.put hsx h3 u, by rw [← Act.put_comm a v u h2]; exact hk.2⟩
  unfold wpOp at *
  simp only [hj] at *
  rw [wanted_put y a x.dst v h1] at h
  by_cases hw : Region.wanted y (yielded ops a.tmps) = true
  · rw [if_pos hw] at h ⊢
    rcases h with h | ⟨hasks, hlets⟩
    · refine .inl ?_
      unfold Oper.wp at *
      rw [execOp_put y hsy a x.dst v h1] at h
      cases hr : (execOp a.eval y).run P w with
      | halt q w' =>
        rw [hr] at h
        cases q <;> first | exact h.elim | exact (hQ _ _ _ h).elim
      | ok q w' =>
        rw [hr] at h
        cases q with
        | value u => exact next u w' h
        | skip => exact next undef w' h
        | defer d =>
          refine ⟨h.1, ?_, ?_⟩
          · have : Yl P I ops x v { a with defers := d :: a.defers } := hy
            exact this.put hsx h3 undef
          · have hk := h.2
            rw [Act.put_defers, Act.put_comm _ v undef h2] at hk
            exact hk
        | enter f args =>
          refine Calls.mono h fun e w'' he => ?_
          cases e with
          | returned u => exact next u w'' he
          | panicked c => exact (hQ _ _ _ he).elim
          | outgrown => exact he
        | row r args => exact Rows.mono h fun u w'' he => next u w'' he
        | _ => exact h.elim
    · refine .inr ⟨?_, hlets⟩
      unfold Oper.asks at *
      rwa [execOp_put y hsy a x.dst v h1] at hasks
  · rw [if_neg hw] at h ⊢
    exact next undef w h

theorem wpAnyI_first {i : Nat} {x : Oper} {v : Value} (hi : ops[i]? = some x) (hsel : ∀ (j : Nat) (o : Oper) cs b, ops[j]? = some o → o.op ≠ .select cs b) (hQ : ∀ c a w, Q (.panic c) a w → False) (hT : ∀ j y, ops[j]? = some y → T j = true → ∃ e, e ∈ y.after ∧ Region.binds .any e = true ∧ e.on = i) (hTi : T i = false) :
    ∀ (m : Nat) (listed : Array Bool) (a : Act) (w : World),
      (∀ j y, ops[j]? = some y → j ≠ i → listed.getD j true = false → (∀ e ∈ y.after, Region.binds .any e = true → e.on ≠ i) → x.apart ops y = true) →
      i ∈ Region.ready .any ops listed → I w → Yl P I ops x v a → wpAnyI P I T ops Q m (listed.setIfInBounds i true) (a.put x.dst v) w → wpAnyI P I T ops Q (m + 1) listed a w := by
  intro m
  induction m with
  | zero =>
    intro listed a w _ hr hI hy H
    refine ⟨fun h => (by rw [h] at hr; cases hr), fun j hj => ?_⟩
    by_cases hji : j = i
    · subst hji; exact hy.wpOp hi hI ⟨.inr hI, H⟩
    · have := ready_mono hj hji
      rw [H.1] at this
      cases this
  | succ m ih =>
    intro listed a w hfree hr hI hy H
    refine ⟨fun h => (by rw [h] at hr; cases hr), fun j hj => ?_⟩
    by_cases hji : j = i
    · subst hji; exact hy.wpOp hi hI ⟨.inr hI, H⟩
    · obtain ⟨hjun, y, hoj, hall⟩ := mem_ready.1 hj
      have hnot : ∀ e ∈ y.after, Region.binds .any e = true → e.on ≠ i := fun e he hb heq => by
        have h1 := hall e he hb
        have h0 := (mem_ready.1 hr).1
        rw [heq] at h1
        rcases Nat.lt_or_ge i listed.size with h' | h'
        · simp [h'] at h0 h1; rw [h0] at h1; cases h1
        · simp [Array.getElem?_eq_none h'] at h1
      have hTj : T j = false := by
        cases hq : T j with
        | false => rfl
        | true =>
          obtain ⟨e, he, hb, heq⟩ := hT j y hoj hq
          exact absurd heq (hnot e he hb)
      have h2 := wpOp_swap hoj (hfree j y hoj hji hjun hnot) (fun cs b => hsel i x cs b hi) (fun cs b => hsel j y cs b hoj) hQ hy (H.2 j (ready_mono hj hji))
      have hfree' : ∀ k z, ops[k]? = some z → k ≠ i → (listed.setIfInBounds j true).getD k true = false → (∀ e ∈ z.after, Region.binds .any e = true → e.on ≠ i) → x.apart ops z = true := fun k z hk hki hun hno => by
        refine hfree k z hk hki ?_ hno
        by_cases hjk : j = k
        · subst hjk; exact hjun
        · rw [getD_set_ne true hjk] at hun; exact hun
      refine wpOp_mono (fun a' w' h3 => ⟨h3.1, ih (listed.setIfInBounds j true) a' w' hfree' (ready_mono hr (Ne.symm hji)) (h3.1.resolve_left (by rw [hTj]; exact Bool.false_ne_true)) h3.2.1 ?_⟩) h2
      rw [Array.setIfInBounds_comm _ _ hji]
      exact h3.2.2

/-- the order in which a region is gone through: the operation's number, and 0: it only reads or reckons; 1: it turns the world; 2: it turns it, and comes behind all that only read. -/
def ordOk (ops : Array Oper) : List (Nat × Nat) → Array Bool → Bool
  | [], listed => (Region.ready .any ops listed).isEmpty
  | (i, 0) :: l, listed => (Region.ready .any ops listed).contains i && Region.free .any ops listed i && ordOk ops l (listed.setIfInBounds i true)
  | (i, _ + 1) :: l, listed => (Region.ready .any ops listed == [i]) && ordOk ops l (listed.setIfInBounds i true)
def isTail (ord : List (Nat × Nat)) (j : Nat) : Bool := ord.any fun p => p.1 == j && p.2 == 2
def tailOk (ops : Array Oper) (ord : List (Nat × Nat)) : Bool :=
  ord.all fun p => p.2 != 0 || (!isTail ord p.1 && (List.range ops.size).all fun j => !isTail ord j || match ops[j]? with | some y => y.after.any fun e => Region.binds .any e && e.on == p.1 | none => true)
/-- tails come last. -/
def tailLast : List (Nat × Nat) → Bool
  | [] => true
  | (_, k) :: l => tailLast l && (k != 2 || l.all fun p => p.2 == 2)

def wpFr (P : Program) (I : World → Prop) (ops : Array Oper) (Q : Exit → Act → World → Prop) : List (Nat × Nat) → Act → World → Prop
  | [], a, w => Q .normal a w
  | (i, 0) :: l, a, w => ∃ o, ops[i]? = some o ∧ ∃ v, Yl P I ops o v a ∧ wpFr P I ops Q l (a.put o.dst v) w
  | (i, 1) :: l, a, w => ∃ o, ops[i]? = some o ∧ wpList P ops (Exit.then (fun a' w' => I w' ∧ wpFr P I ops Q l a' w') Q) [o] a w
  | (i, _ + 2) :: l, a, w => ∃ o, ops[i]? = some o ∧ wpList P ops (Exit.then (fun a' w' => wpFr P I ops Q l a' w') Q) [o] a w

theorem wpList_op {i : Nat} {o : Oper} {a : Act} {w : World} {K : Act → World → Prop} (hi : ops[i]? = some o) (h : wpList P ops (Exit.then K Q) [o] a w) : wpOp P ops Q i K a w := by
  unfold wpOp
  simp only [hi]
  unfold wpList at h
  by_cases hw : Region.wanted o (yielded ops a.tmps) = true
  · rw [if_pos hw] at h ⊢
    rcases h with h | ⟨h1, h2⟩
    · refine .inl ?_
      unfold Oper.wp at *
      cases hrun : (execOp a.eval o).run P w with
      | halt q w' =>
        rw [hrun] at h
        cases q <;> first | exact h.elim | exact h
      | ok q w' =>
        rw [hrun] at h
        cases q with
        | value u => exact h
        | skip => exact h
        | defer d => exact h
        | enter f args =>
          refine Calls.mono h fun e w'' he => ?_
          cases e with
          | returned u => exact he
          | panicked c => exact he
          | outgrown => exact he
        | row r args => exact Rows.mono h fun u w'' he => he
        | _ => exact h.elim
    · exact .inr ⟨h1, h2⟩
  · rw [if_neg hw] at h ⊢
    exact h

theorem wpFr_any (hs : Region.noSelect ops = true) (hQ : ∀ c a w, Q (.panic c) a w → False) : ∀ (l : List (Nat × Nat)) (listed : Array Bool) (a : Act) (w : World),
    (∀ i k, (i, k) ∈ l → (k = 0 → T i = false ∧ ∀ j y, ops[j]? = some y → T j = true → ∃ e, e ∈ y.after ∧ Region.binds .any e = true ∧ e.on = i) ∧ (k ≥ 2 → T i = true)) → ((∃ i, (i, 0) ∈ l) → I w) → tailLast l = true → (∀ i k, (i, k) ∈ l → k ≤ 2) →
    ordOk ops l listed = true → wpFr P I ops Q l a w → wpAnyI P I T ops Q l.length listed a w
  | [], listed, a, w, _, _, _, _, ho, h => ⟨by simpa [ordOk] using ho, h⟩
  | (i, 0) :: l, listed, a, w, hT, hI, hl, hk, ho, h => by
    simp only [ordOk, Bool.and_eq_true] at ho
    obtain ⟨⟨hr, hf⟩, ho⟩ := ho
    obtain ⟨o, hi, v, hy, h⟩ := h
    simp only [tailLast, Bool.and_eq_true] at hl
    have hIw := hI ⟨i, .head _⟩
    obtain ⟨hTi, hTe⟩ := (hT i 0 (.head _)).1 rfl
    exact wpAnyI_first hi (Region.noSelect_spec hs) hQ hTe hTi l.length listed a w (fun j y hj hne hun hno => Region.free_spec hi hf j y hj hne hun hno) (by simpa using hr) hIw hy
      (wpFr_any hs hQ l _ _ w (fun i k hm => hT i k (.tail _ hm)) (fun _ => hIw) hl.1 (fun i k hm => hk i k (.tail _ hm)) ho h)
  | (i, 1) :: l, listed, a, w, hT, hI, hl, hk, ho, h => by
    simp only [ordOk, Bool.and_eq_true, beq_iff_eq] at ho
    obtain ⟨hr, ho⟩ := ho
    obtain ⟨o, hi, h⟩ := h
    simp only [tailLast, Bool.and_eq_true] at hl
    refine ⟨fun h0 => (by rw [hr] at h0; cases h0), fun j hj => ?_⟩
    rw [hr] at hj
    simp at hj
    subst hj
    exact wpOp_mono (fun a' w' h' => ⟨.inr h'.1, wpFr_any hs hQ l _ _ _ (fun i k hm => hT i k (.tail _ hm)) (fun _ => h'.1) hl.1 (fun i k hm => hk i k (.tail _ hm)) ho h'.2⟩) (wpList_op hi h)
  | (i, k + 2) :: l, listed, a, w, hT, hI, hl, hk, ho, h => by
    simp only [ordOk, Bool.and_eq_true, beq_iff_eq] at ho
    obtain ⟨hr, ho⟩ := ho
    obtain ⟨o, hi, h⟩ := h
    simp only [tailLast, Bool.and_eq_true] at hl
    have hk0 : k = 0 := by have := hk i (k + 2) (.head _); omega
    subst hk0
    have hno : ¬ ∃ i, (i, 0) ∈ l := by
      rintro ⟨q, hq⟩
      have := hl.2
      simp at this
      have := this q 0 hq
      omega
    refine ⟨fun h0 => (by rw [hr] at h0; cases h0), fun j hj => ?_⟩
    rw [hr] at hj
    simp at hj
    subst hj
    exact wpOp_mono (fun a' w' h' => ⟨.inl ((hT _ _ (.head _)).2 (by omega)), wpFr_any hs hQ l _ _ _ (fun i k hm => hT i k (.tail _ hm)) (fun hx => (hno hx).elim) hl.1 (fun i k hm => hk i k (.tail _ hm)) ho h'⟩) (wpList_op hi h)

def ordAll (ops : Array Oper) (ord : List (Nat × Nat)) : Bool :=
  Region.noSelect ops && ordOk ops ord (Array.replicate ops.size false) && Nat.beq ord.length ops.size && tailLast ord && tailOk ops ord && ord.all fun p => Nat.ble p.2 2
theorem wp_draw {id : Nat} {a : Act} {w : World} (I : World → Prop) (ord : List (Nat × Nat)) (hm : P.follows .mixedOrders = true) (ho : ordAll ops ord = true)
    (hQ : ∀ c a w, Q (.panic c) a w → False) (hI : I { w with drawn := w.drawn + 1 }) (h : wpFr P I ops Q ord a { w with drawn := w.drawn + 1 }) : (Code.region id ops true).wp P Q a w := by
  simp only [ordAll, Bool.and_eq_true] at ho
  obtain ⟨⟨⟨⟨⟨h1, h2⟩, h3⟩, h4⟩, h5⟩, h6⟩ := ho
  have hlen : ord.length = ops.size := Nat.eq_of_beq_eq_true h3
  refine wp_region_any hm (hlen ▸ wpAnyI_any (T := isTail ord) (I := I) _ _ _ _ (wpFr_any h1 hQ ord _ a _ (fun i k hmem => ?_) (fun _ => hI) h4 (fun i k hmem => ?_) (hlen.symm ▸ h2) h))
  · refine ⟨fun hk => ?_, fun hk => ?_⟩
    · subst hk
      simp only [tailOk, List.all_eq_true] at h5
      have := h5 _ hmem
      simp only [bne_self_eq_false, Bool.false_or, Bool.and_eq_true, Bool.not_eq_true', List.all_eq_true, List.mem_range] at this
      refine ⟨this.1, fun j y hj hTj => ?_⟩
      have hq := this.2 j (Array.getElem?_eq_some_iff.1 hj).1
      rw [hTj, hj] at hq
      simp only [Bool.not_true, Bool.false_or] at hq
      obtain ⟨e, he, hb⟩ := Array.any_eq_true'.1 hq
      simp only [Bool.and_eq_true, beq_iff_eq] at hb
      exact ⟨e, he, hb⟩
    · have h7 : k ≤ 2 := by
        have := List.all_eq_true.1 h6 _ hmem
        exact Nat.le_of_ble_eq_true this
      have hk2 : k = 2 := by omega
      subst hk2
      exact List.any_eq_true.2 ⟨_, hmem, by simp⟩
  · have := List.all_eq_true.1 h6 _ hmem
    exact Nat.le_of_ble_eq_true this

/-! ### its steps -/
variable {ord : List (Nat × Nat)} {o : Oper} {a : Act} {w : World} {n : Nat} {env : List (Nat × Value)} {i : Nat}
theorem fr_nil (h : Q .normal a w) : wpFr P I ops Q [] a w := h
theorem fr_val (E : Env n a env) (hi : ops[i]? = some o) (hw : Region.wanted o (yielded ops a.tmps) = true) {d : Nat} (hd : o.dst = some d) (hdn : Nat.ble (d + 1) n = true) {v : Value}
    (hrun : ∀ w, I w → (execOp a.eval o).run P w = .ok (.value v) w) (k : ∀ a', Env n a' ((d, v) :: env) → wpFr P I ops Q ord a' w) : wpFr P I ops Q ((i, 0) :: ord) a w :=
  ⟨o, hi, v, .inl ⟨hw, hrun⟩, by rw [hd]; exact k _ (E.put d hdn v)⟩
theorem fr_no (E : Env n a env) (hi : ops[i]? = some o) (hw : Region.wanted o (yielded ops a.tmps) = false) {d : Nat} (hd : o.dst = some d) (hdn : Nat.ble (d + 1) n = true)
    (k : ∀ a', Env n a' ((d, undef) :: env) → wpFr P I ops Q ord a' w) : wpFr P I ops Q ((i, 0) :: ord) a w :=
  ⟨o, hi, undef, .inr ⟨hw, rfl⟩, by rw [hd]; exact k _ (E.put d hdn undef)⟩
theorem fr_op (hi : ops[i]? = some o) (h : wpList P ops (Exit.then (fun a' w' => I w' ∧ wpFr P I ops Q ord a' w') Q) [o] a w) : wpFr P I ops Q ((i, 1) :: ord) a w := ⟨o, hi, h⟩
theorem fr_tail (hi : ops[i]? = some o) (h : wpList P ops (Exit.then (fun a' w' => wpFr P I ops Q ord a' w') Q) [o] a w) : wpFr P I ops Q ((i, 2) :: ord) a w := ⟨o, hi, h⟩
end
/-- the worlds in which some objects and reads are as they were. -/
def Still (os : List Ob) (rs : List Rp) : World → Prop := fun w => ∃ os' rs', Sep w os' rs' ∧ (∀ o, o ∈ os → o ∈ os') ∧ ∀ r, r ∈ rs → r ∈ rs'
theorem Still.cell {os : List Ob} {rs : List Rp} {w : World} (h : Still os rs w) {p : Nat} {T : TypeId} {cs : List Value} (ho : Blk p T cs ∈ os) : ∃ (os' : List Ob) (rs' : List Rp) (i : Nat), Sep w os' rs' ∧ os'[i]? = some (Blk p T cs) := by
  obtain ⟨os', rs', H, h1, _⟩ := h
  obtain ⟨i, hi⟩ := List.getElem?_of_mem (h1 _ ho)
  exact ⟨os', rs', i, H, hi⟩
end Go.Cb
