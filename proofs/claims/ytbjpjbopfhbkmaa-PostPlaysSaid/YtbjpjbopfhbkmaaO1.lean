/- Objects of many blocks; loops' records; walks in a round. -/
import Derived.Test.YtbjpjbopfhbkmaaB13
import Derived.RangeFuncLeaves
import Derived.RangeFuncRecord
import Derived.OrdersIn
import Derived.TacticsIn
set_option linter.unusedVariables false
set_option linter.unusedSimpArgs false
namespace Go.Cb
open Go.RowKit

/-! ### objects of many blocks -/
def Ob.many (l : List Ob) : Ob where
  p w own ok := ∃ c : Nat → Nat, (∀ b, c b ≠ 0 → own b) ∧ ∀ (i : Nat) (o : Ob), l[i]? = some o → o.p w (fun b => c b = i + 1) ok
  keep := by
    rintro w w' own own' ok ok' ⟨c, h1, h2⟩ k ho hk
    refine ⟨fun b => if b < w.heap.size then c b else 0, fun b hb => ?_, fun i o hi => ?_⟩
    · by_cases hlt : b < w.heap.size
      · simp only [if_pos hlt] at hb
        exact ho b hlt (h1 b hb)
      · simp [if_neg hlt] at hb
    · refine o.keep (h2 i o hi) (k.mono fun b _ hb => ?_) (fun b hlt hb => ?_) hk
      · rcases hb with hb | hb
        · exact .inl (h1 b (by omega))
        · exact .inr hb
      · show (if b < w.heap.size then c b else 0) = i + 1
        rw [if_pos hlt]; exact hb
def Ob.ex {α : Type} (f : α → Ob) : Ob where
  p w own ok := ∃ x, (f x).p w own ok
  keep := by
    rintro w w' own own' ok ok' ⟨x, h⟩ k ho hk
    exact ⟨x, (f x).keep h k ho hk⟩
/-- an object that is no cells. -/
def ObjO (l : Nat) (o : Obj) : Ob where
  p w own _ := own l ∧ w.heap[l]? = some o
  keep := by
    rintro w w' own own' ok ok' ⟨h1, h2⟩ k ho _
    have hb : l < w.heap.size := (Array.getElem?_eq_some_iff.1 h2).1
    exact ⟨ho l hb h1, (k.block l hb (.inl h1)).trans h2⟩

section
variable {w w' : World} {os os' : List Ob} {rs : List Rp}
theorem Sep.unpack {l : List Ob} (H : Sep w (Ob.many l :: os) rs) : Sep w (l ++ os) rs := by
  obtain ⟨col, h1, h2⟩ := H
  obtain ⟨c, hc, hl⟩ := h1 0 _ rfl
  refine ⟨fun b => if col b = 0 then 0 else if col b = 1 then (if c b ≤ l.length then c b else 0) else col b + l.length - 1, fun j x hj => ?_, fun r hr => r.keep (h2 r hr) (Kp.refl _ _) fun b _ hb => by show (if col b = 0 then 0 else _) = 0; rw [if_pos hb]⟩
  by_cases hlt : j < l.length
  · rw [List.getElem?_append_left hlt] at hj
    refine x.keep (hl j x hj) (Kp.refl _ _) (fun b _ hb => ?_) (fun b _ hb => ?_)
    · have := hc b (by omega)
      show (if col b = 0 then 0 else if col b = 1 then (if c b ≤ l.length then c b else 0) else col b + l.length - 1) = j + 1
      rw [if_neg (by omega), if_pos (by omega), if_pos (by omega)]; exact hb
    · show (if col b = 0 then 0 else _) = 0
      rw [if_pos hb]
  · rw [List.getElem?_append_right (by omega)] at hj
    refine x.keep (h1 (j - l.length + 1) x (by simpa using hj)) (Kp.refl _ _) (fun b _ hb => ?_) (fun b _ hb => ?_)
    · show (if col b = 0 then 0 else if col b = 1 then (if c b ≤ l.length then c b else 0) else col b + l.length - 1) = j + 1
      rw [if_neg (by omega), if_neg (by omega)]; omega
    · show (if col b = 0 then 0 else _) = 0
      rw [if_pos hb]
theorem Sep.pack {l : List Ob} (H : Sep w (l ++ os) rs) : Sep w (Ob.many l :: os) rs := by
  obtain ⟨col, h1, h2⟩ := H
  refine ⟨fun b => if col b = 0 then 0 else if col b ≤ l.length then 1 else col b - l.length + 1, fun j x hj => ?_, fun r hr => r.keep (h2 r hr) (Kp.refl _ _) fun b _ hb => by show (if col b = 0 then 0 else _) = 0; rw [if_pos hb]⟩
  have hok : ∀ b, col b = 0 → (if col b = 0 then 0 else if col b ≤ l.length then 1 else col b - l.length + 1) = 0 := fun b hb => by rw [if_pos hb]
  cases j with
  | zero =>
    simp at hj
    subst hj
    refine ⟨fun b => if col b ≤ l.length then col b else 0, fun b hb => ?_, fun i o hi => ?_⟩
    · show (if col b = 0 then 0 else if col b ≤ l.length then 1 else col b - l.length + 1) = 0 + 1
      have hb' : (if col b ≤ l.length then col b else 0) ≠ 0 := hb
      by_cases h : col b ≤ l.length
      · rw [if_pos h] at hb'; rw [if_neg hb', if_pos h]
      · rw [if_neg h] at hb'; exact absurd rfl hb'
    · have hil : i < l.length := (List.getElem?_eq_some_iff.1 hi).1
      refine o.keep (h1 i o (by rw [List.getElem?_append_left hil]; exact hi)) (Kp.refl _ _) (fun b _ hb => ?_) (fun b _ hb => hok b hb)
      show (if col b ≤ l.length then col b else 0) = i + 1
      rw [if_pos (by omega)]; exact hb
  | succ j =>
    simp at hj
    refine x.keep (h1 (l.length + j) x (by rw [List.getElem?_append_right (by omega)]; simpa using hj)) (Kp.refl _ _) (fun b _ hb => ?_) (fun b _ hb => hok b hb)
    show (if col b = 0 then 0 else if col b ≤ l.length then 1 else col b - l.length + 1) = j + 1 + 1
    rw [if_neg (by omega), if_neg (by omega)]; omega
theorem Sep.unex {α : Type} {f : α → Ob} (H : Sep w (Ob.ex f :: os) rs) : ∃ x, Sep w (f x :: os) rs := by
  obtain ⟨col, h1, h2⟩ := H
  obtain ⟨x, hx⟩ := h1 0 _ rfl
  refine ⟨x, col, fun i o hi => ?_, h2⟩
  cases i with
  | zero => simp at hi; subst hi; exact hx
  | succ i => exact h1 (i + 1) o hi
theorem Sep.mkex {α : Type} {f : α → Ob} (x : α) (H : Sep w (f x :: os) rs) : Sep w (Ob.ex f :: os) rs := by
  obtain ⟨col, h1, h2⟩ := H
  refine ⟨col, fun i o hi => ?_, h2⟩
  cases i with
  | zero => simp at hi; subst hi; exact ⟨x, h1 0 _ rfl⟩
  | succ i => exact h1 (i + 1) o hi
theorem Sep.sub (H : Sep w os rs) (g : Nat → Nat) (h : ∀ (i : Nat) (o : Ob), os'[i]? = some o → ∃ k, os[k]? = some o ∧ g k = i) : Sep w os' rs := by
  obtain ⟨col, h1, h2⟩ := H
  refine ⟨fun b => if col b = 0 then 0 else g (col b - 1) + 1, fun i o hi => ?_, fun r hr => r.keep (h2 r hr) (Kp.refl _ _) fun b _ hb => by show (if col b = 0 then 0 else _) = 0; rw [if_pos hb]⟩
  obtain ⟨k, hk, hg⟩ := h i o hi
  refine o.keep (h1 k o hk) (Kp.refl _ _) (fun b _ hb => ?_) (fun b _ hb => by show (if col b = 0 then 0 else _) = 0; rw [if_pos hb])
  show (if col b = 0 then 0 else g (col b - 1) + 1) = i + 1
  rw [if_neg (by omega), show col b - 1 = k from by omega, hg]
/-- the first object goes behind some. -/
theorem Sep.back {x : Ob} {A B : List Ob} (H : Sep w (x :: (A ++ B)) rs) : Sep w (A ++ x :: B) rs := by
  refine H.sub (fun k => if k = 0 then A.length else if k ≤ A.length then k - 1 else k) fun i o hi => ?_
  by_cases h1 : i < A.length
  · rw [List.getElem?_append_left h1] at hi
    exact ⟨i + 1, by rw [List.getElem?_cons_succ, List.getElem?_append_left h1]; exact hi, by rw [if_neg (by omega), if_pos (by omega)]; omega⟩
  · rw [List.getElem?_append_right (by omega)] at hi
    by_cases h2 : i = A.length
    · subst h2
      simp at hi
      exact ⟨0, by simpa using hi, by simp⟩
    · obtain ⟨j, rfl⟩ : ∃ j, i = A.length + (j + 1) := ⟨i - A.length - 1, by omega⟩
      rw [show A.length + (j + 1) - A.length = j + 1 from by omega, List.getElem?_cons_succ] at hi
      exact ⟨A.length + j + 1, by rw [List.getElem?_cons_succ, List.getElem?_append_right (by omega), show A.length + j - A.length = j from by omega]; exact hi, by rw [if_neg (by omega), if_neg (by omega)]; omega⟩
/-- the objects ahead go behind. -/
theorem Sep.swap {A B C : List Ob} (H : Sep w (A ++ (B ++ C)) rs) : Sep w (B ++ (A ++ C)) rs := by
  refine H.sub (fun k => if k < A.length then k + B.length else if k < A.length + B.length then k - A.length else k) fun i o hi => ?_
  by_cases h1 : i < B.length
  · rw [List.getElem?_append_left h1] at hi
    exact ⟨A.length + i, by rw [List.getElem?_append_right (by omega), show A.length + i - A.length = i from by omega, List.getElem?_append_left h1]; exact hi, by rw [if_neg (by omega), if_pos (by omega)]; omega⟩
  · rw [List.getElem?_append_right (by omega)] at hi
    by_cases h2 : i - B.length < A.length
    · rw [List.getElem?_append_left h2] at hi
      exact ⟨i - B.length, by rw [List.getElem?_append_left h2]; exact hi, by rw [if_pos h2]; omega⟩
    · rw [List.getElem?_append_right (by omega)] at hi
      exact ⟨i, by rw [List.getElem?_append_right (by omega), List.getElem?_append_right (by omega), show i - A.length - B.length = i - B.length - A.length from by omega]; exact hi, by rw [if_neg (by omega), if_neg (by omega)]⟩
theorem Sep.objAt (H : Sep w os rs) {i l : Nat} {o : Obj} (hi : os[i]? = some (ObjO l o)) : w.heap[l]? = some o := by
  obtain ⟨_, _, h⟩ := H.ob i hi
  exact h.2
theorem Sep.newObj (H : Sep w os rs) (o : Obj) : Sep (w.alloc o) (ObjO w.heap.size o :: os) rs :=
  H.new (Kp.alloc _ w _) fun ok _ => ⟨Nat.le_refl _, heap_alloc_new w _⟩
theorem Sep.put (H : Sep w os rs) {i l : Nat} {o : Obj} (hi : os[i]? = some (ObjO l o)) (o' : Obj) : Sep (w.putObj l o') (os.set i (ObjO l o')) rs := by
  refine H.upd i hi fun own ok _ ho => ⟨⟨rfl, rfl, rfl, by simp, fun b hb hn => ?_⟩, .inl ho.1, World.putObj_heap_same (Array.getElem?_eq_some_iff.1 ho.2).1⟩
  exact World.putObj_heap_other fun e => hn (by rw [e]; exact ho.1)
end

/-! ### a walk goes into a round, and behind a mark -/
def FQ (ro : Option Nat) : Fence := { Fence.wide with round := ro }
def wd (d : List Deferred) (a : Act) : Act := { a with defers := a.defers ++ d }
def noDefer (o : Oper) : Bool := match o.op with
  | .defer _ => false
  | _ => true
section
variable {ro : Option Nat} {d : List Deferred} {n : Nat} {P : Program} {ops : Array Oper} {Q : Exit → Act → World → Prop} {o : Oper} {a : Act} {w : World}
theorem noDefer_ne (h : noDefer o = true) (c : Call) : o.op ≠ .defer c := fun e => by simp [noDefer, e] at h
theorem wd_eval (d : List Deferred) (a : Act) : (wd d a).eval = a.eval := by funext x; cases x <;> rfl
theorem wd_put (d : List Deferred) (a : Act) (t : Option Tmp) (v : Value) : (wd d a).put t v = wd d (a.put t v) := by cases t <;> rfl
/-- one operation. -/
theorem wp_in {K K' : Act → World → Prop} (hd : noDefer o = true) (hk : ∀ a w, K a w → K' (wd d a) w) (h : o.wp P a w K fun e a w => Q e (wd d a) w) : o.wpIn (FQ ro) n P (wd d a) w K' Q := by
  unfold Oper.wp at h
  unfold Oper.wpIn
  refine ⟨fun _ _ => trivial, ?_⟩
  rw [Oper.semAt_eq _ _ _ (noDefer_ne hd), wd_eval]
  generalize (execOp a.eval o).run P w = r at h ⊢
  cases r with
  | ok nx w' =>
    cases nx with
    | value v => show K' ((wd d a).put o.dst v) w'; rw [wd_put]; exact hk _ _ h
    | skip => show K' ((wd d a).put o.dst undef) w'; rw [wd_put]; exact hk _ _ h
    | defer dd => show K' (({ wd d a with defers := dd :: (wd d a).defers } : Act).put o.dst undef) w'; exact (show (({ wd d a with defers := dd :: (wd d a).defers } : Act).put o.dst undef) = wd d (({ a with defers := dd :: a.defers } : Act).put o.dst undef) from by cases o.dst <;> rfl) ▸ hk _ _ h
    | enter f args =>
      refine ⟨(fun e => by cases e), trivial, fun cs _ => ?_⟩
      obtain ⟨e, w'', fr, r, s, x⟩ := Calls.mono (R' := fun
        | .returned v, w'' => K' ((wd d a).put o.dst v) w''
        | .panicked chain, w'' => Q (.panic chain) (wd d a) w''
        | .outgrown, _ => LetsOut Q) h (fun e w'' q => by
          cases e with
          | returned v => show K' ((wd d a).put o.dst v) w''; rw [wd_put]; exact hk _ _ q
          | panicked chain => exact q
          | outgrown => obtain ⟨a0, w0, hq⟩ := q; exact ⟨_, w0, hq⟩) cs
      exact ⟨e, w'', fr, r, comesIn_wide.2 s, x⟩
    | row row args =>
      refine ⟨(fun e => by cases e), fun c cs _ => ?_⟩
      obtain ⟨v, w'', r, s⟩ := h c cs
      exact ⟨v, w'', by show K' ((wd d a).put o.dst v) w''; rw [wd_put]; exact hk _ _ r, stepsIn_wide.2 s⟩
    | _ => exact h.elim
  | halt e w' =>
    cases e with
    | panic v => exact h
    | _ => exact h.elim
/-- a list of operations. -/
theorem list_in (hq : ¬ LetsOut Q) : ∀ (l : List Oper) (a : Act) (w : World), l.all noDefer = true → wpList P ops (fun e a w => Q e (wd d a) w) l a w → wpListIn (FQ ro) n P ops Q l (wd d a) w
  | [], a, w, _, h => h
  | o :: l, a, w, hd, h => by
    rw [List.all_cons, Bool.and_eq_true] at hd
    unfold wpList at h
    unfold wpListIn
    have hy : yielded ops (wd d a).tmps = yielded ops a.tmps := rfl
    rw [hy]
    split at h
    · rename_i hw
      rw [if_pos hw]
      rcases h with h | ⟨_, a0, w0, h⟩
      · exact wp_in hd.1 (fun a w hk => list_in hq l a w hd.2 hk) h
      · exact absurd ⟨_, w0, h⟩ hq
    · rename_i hw
      rw [if_neg hw]
      refine ⟨fun _ _ => trivial, ?_⟩
      rw [wd_put]
      exact list_in hq l _ w hd.2 h
theorem op_in (hq : ¬ LetsOut Q) {i : Nat} {K K' : Act → World → Prop} (hd : ops.all noDefer = true) (hk : ∀ a w, K a w → K' (wd d a) w) (h : wpOp P ops (fun e a w => Q e (wd d a) w) i K a w) : wpOpIn (FQ ro) n P ops Q i K' (wd d a) w := by
  unfold wpOp at h
  unfold wpOpIn
  cases ho : ops[i]? with
  | none => rw [ho] at h; exact hk _ _ h
  | some o =>
    rw [ho] at h
    have hdo : noDefer o = true := by
      obtain ⟨hlt, he⟩ := Array.getElem?_eq_some_iff.1 ho
      rw [Array.all_eq_true] at hd
      rw [← he]; exact hd i hlt
    have hy : yielded ops (wd d a).tmps = yielded ops a.tmps := rfl
    dsimp only at h ⊢
    rw [hy]
    split at h
    · rename_i hw
      rw [if_pos hw]
      rcases h with h | ⟨_, a0, w0, h⟩
      · exact wp_in hdo hk h
      · exact absurd ⟨_, w0, h⟩ hq
    · rename_i hw
      rw [if_neg hw]
      refine ⟨fun _ _ => trivial, ?_⟩
      rw [wd_put]
      exact hk _ _ h
theorem any_in (hq : ¬ LetsOut Q) (hd : ops.all noDefer = true) : ∀ (m : Nat) (listed : Array Bool) (a : Act) (w : World), wpAny P .any ops (fun e a w => Q e (wd d a) w) m listed a w → wpAnyIn (FQ ro) n P .any ops Q m listed (wd d a) w
  | 0, listed, a, w, h => h
  | m + 1, listed, a, w, h => ⟨h.1, fun i hi => op_in hq hd (fun a w hk => any_in hq hd m _ a w hk) (h.2 i hi)⟩
/-- a region. -/
theorem r_reg {id : Nat} {l : List Oper} (hq : ¬ LetsOut Q) (hd : l.all noDefer = true) (h : wpList P l.toArray (fun e a w => Q e (wd d a) w) l a w) : (Code.region id l.toArray false).wpIn (FQ ro) n P Q (wd d a) w :=
  wpIn_region_lit (list_in hq l a w hd h)
theorem r_draw {id : Nat} (I : World → Prop) (ord : List (Nat × Nat)) (hm : P.follows .mixedOrders = true) (ho : ordAll ops ord = true) (hq : ¬ LetsOut Q) (hd : ops.all noDefer = true)
    (hQ : ∀ c a w, Q (.panic c) a w → False) (hI : I { w with drawn := w.drawn + 1 }) (h : wpFr P I ops (fun e a w => Q e (wd d a) w) ord a { w with drawn := w.drawn + 1 }) : (Code.region id ops true).wpIn (FQ ro) n P Q (wd d a) w := by
  simp only [ordAll, Bool.and_eq_true] at ho
  obtain ⟨⟨⟨⟨⟨h1, h2⟩, h3⟩, h4⟩, h5⟩, h6⟩ := ho
  have hlen : ord.length = ops.size := Nat.eq_of_beq_eq_true h3
  refine wpIn_region_any hm (any_in hq hd _ _ _ _ (hlen ▸ wpAnyI_any (T := isTail ord) (I := I) _ _ _ _ (wpFr_any (Q := fun e a w => Q e (wd d a) w) h1 (fun c a w hc => hQ c _ w hc) ord _ a _ (fun i k hmem => ?_) (fun _ => hI) h4 (fun i k hmem => ?_) (hlen.symm ▸ h2) h)))
  · refine ⟨fun hk => ?_, fun hk => ?_⟩
    · subst hk
      simp only [tailOk, List.all_eq_true] at h5
      have := h5 _ hmem
      simp only [bne_self_eq_false, Bool.false_or, Bool.and_eq_true, Bool.not_eq_true', List.all_eq_true, List.mem_range] at this
      refine ⟨this.1, fun j y hj hTj => ?_⟩
      have hq := this.2 j (Array.getElem?_eq_some_iff.1 hj).1
      rw [hTj, hj] at hq
      simp only [Bool.not_true, Bool.false_or] at hq
      obtain ⟨e, he, hb⟩ := Array.any_eq_true'.1 hq
      simp only [Bool.and_eq_true, beq_iff_eq] at hb
      exact ⟨e, he, hb⟩
    · have h7 : k ≤ 2 := by
        have := List.all_eq_true.1 h6 _ hmem
        exact Nat.le_of_ble_eq_true this
      have hk2 : k = 2 := by omega
      subst hk2
      exact List.any_eq_true.2 ⟨_, hmem, by simp⟩
  · have := List.all_eq_true.1 h6 _ hmem
    exact Nat.le_of_ble_eq_true this
theorem r_if {m : Nat} {env : List (Nat × Value)} (E : Env m a env) {c : Operand} {x y : Code} {b : Bool} (hc : opv env c = some (.bool b)) (ht : b = true → x.wpIn (FQ ro) n P Q (wd d a) w) (hf : b = false → y.wpIn (FQ ro) n P Q (wd d a) w) : (Code.cond c x y).wpIn (FQ ro) n P Q (wd d a) w :=
  wpIn_cond_split (by rw [wd_eval]; exact E.eval hc) ht hf
/-- one operation of a list that is walked in a round, or as the one that calls yield. -/
theorem si_val {l : List Oper} {m : Nat} {env : List (Nat × Value)} (E : Env m a env) (hw : Region.wanted o (yielded ops a.tmps) = true) (hn : noDefer o = true) {t : Nat} (hd : o.dst = some t) (hdn : Nat.ble (t + 1) m = true) {v : Value} {w' : World}
    (hrun : (execOp a.eval o).run P w = .ok (.value v) w') (k : ∀ a', Env m a' ((t, v) :: env) → wpListIn (FQ ro) n P ops Q l (wd d a') w') : wpListIn (FQ ro) n P ops Q (o :: l) (wd d a) w := by
  unfold wpListIn
  rw [show yielded ops (wd d a).tmps = yielded ops a.tmps from rfl, if_pos hw]
  unfold Oper.wpIn
  refine ⟨fun _ _ => trivial, ?_⟩
  rw [Oper.semAt_eq _ _ _ (noDefer_ne hn), wd_eval, hrun]
  show wpListIn (FQ ro) n P ops Q l ((wd d a).put o.dst v) w'
  rw [wd_put, hd]
  exact k _ (E.put t hdn v)
end
/-! ### a call of yield, and its round -/
section
variable {n : Nat} {P : Program} {w : World}
def Round (P : Program) (l : Nat) (args : Array Value) (w : World) (R : Ending → World → Prop) : Prop :=
  ∃ fn tmps assign body, (Instr.yield l args).run P w = .ok (.round l fn tmps assign body) w ∧ RoundIn Fence.wide 0 P l fn tmps assign body w R
theorem st_yield {d : List Deferred} {ops : Array Oper} {Q : Exit → Act → World → Prop} {rest : List Oper} {o : Oper} {a : Act} {m : Nat} {env : List (Nat × Value)} {l : Nat} {x : Operand} {xs : List Operand} {ts : Array TypeId} {args : List Value} {R : Ending → World → Prop}
    (E : Env m a env) (hw : Region.wanted o (yielded ops a.tmps) = true) {t : Nat} (hd : o.dst = some t) (hdn : Nat.ble (t + 1) m = true)
    (ho : o.op = .call { callee := .value x, args := xs.toArray, argTypes := ts }) (hx : opv env x = some (.func (.yield l) #[] #[])) (ha : opvs env xs = some args)
    (hr : Round P l args.toArray w R) (k : ∀ e w', R e w' → ∃ v, e = .returned v ∧ ∀ a', Env m a' ((t, v) :: env) → wpListIn (FQ none) 0 P ops Q rest (wd d a') w') : wpListIn (FQ none) 0 P ops Q (o :: rest) (wd d a) w := by
  unfold wpListIn
  rw [show yielded ops (wd d a).tmps = yielded ops a.tmps from rfl, if_pos hw]
  unfold Oper.wpIn
  refine ⟨fun _ _ => trivial, ?_⟩
  obtain ⟨fn, tmps, assign, body, hy, hR⟩ := hr
  have he : (o.semAt none (wd d a).eval).run P w = .ok (.round l fn tmps assign body) w := by
    rw [Oper.semAt_none, wd_eval]
    have hargs := E.evals ha
    simp only [execOp, ho]
    simp only [resolve, hargs, Sem.run_bind, E.eval hx]
    simp [Deferred.ofValue, invoke, hy, Result.andThen, Sem.run]
  show o.uponIn _ _ _ _ _ _ ((o.semAt none (wd d a).eval).run P w)
  rw [he, Oper.uponIn_round]
  refine ⟨(fun e => by cases e), hR.mono fun e w' q => ?_⟩
  obtain ⟨v, rfl, hk⟩ := k e w' q
  show wpListIn (FQ none) 0 P ops Q rest ((wd d a).put o.dst v) w'
  rw [wd_put, hd]
  exact hk _ (E.put t hdn v)
def bz (r : Loop) : Loop := { r with state := .busy }
def dn (r : Loop) (j : Code) : Loop := { r with state := .done, pending := some j }
def xh (r : Loop) : Loop := { r with state := .exhausted }
theorem round_of {l : Nat} {r : Loop} {args : Array Value} {R : Ending → World → Prop} {os : List Ob} {rs : List Rp} (H : Sep w os rs) {i : Nat} (hi : os[i]? = some (ObjO l (.loop r))) (hs : args.size = r.params.size) (hst : r.state = .ready)
    (h : r.assign.wpIn (FQ (some l)) 0 P (Exit.then (fun a₁ w₁ => (∃ os₁ j, Sep w₁ os₁ rs ∧ os₁[j]? = some (ObjO l (.loop r)) ∧ ∀ w₂, Sep w₂ (os₁.set j (ObjO l (.loop (bz r)))) rs → r.body.wpIn (FQ (some l)) 0 P (roundPost P l R) a₁ w₂)) (fun _ _ _ => False))
      { tmps := (r.params.zip args).foldl (fun tmps (t, a) => tmps.setIfInBounds t a) r.tmps, defers := [] } w) : Round P l args w R := by
  refine ⟨_, _, _, _, run_yield (H.objAt hi) hs, roundIn_of_wpIn (F := Fence.wide) trivial (wpIn_mono h fun e a w q => ?_)⟩
  cases e with
  | normal =>
    obtain ⟨os₁, j, H₁, hj, hb⟩ := q
    exact ⟨_, run_beginRound (H₁.objAt hj) hst, hb _ (H₁.put hj _)⟩
  | _ => exact q
end
end Go.Cb
