/- Base 1: frames as lists of live temporaries, worlds as owned objects and persistent reads. -/
import Derived.WalkKit
import Derived.WalkLawsBesides
import Derived.WalkSpells
import Derived.Orders
import Derived.Maps.AppendAt
set_option linter.unusedVariables false
set_option linter.unusedSimpArgs false
namespace Go.Cb
open Go.RowKit

/-! ### the frame -/
def look : List (Nat × Value) → Nat → Option Value
  | [], _ => none
  | (t, v) :: r, k => bif Nat.beq t k then some v else look r k

structure Env (n : Nat) (a : Act) (env : List (Nat × Value)) : Prop where
  size : a.tmps.size = n
  defers : a.defers = []
  get : ∀ t v, look env t = some v → a.tmps[t]? = some v

section
variable {n : Nat} {a : Act} {env : List (Nat × Value)}
theorem Env.put (E : Env n a env) (d : Nat) (hd : Nat.ble (d + 1) n = true) (v : Value) : Env n (a.put (some d) v) ((d, v) :: env) := by
  have hd' : d < n := Nat.le_of_ble_eq_true hd
  refine ⟨by simp [Act.put, E.size], by simp [Act.put, E.defers], fun t u h => ?_⟩
  simp only [look] at h
  by_cases e : d = t
  · subst e
    simp at h
    subst h
    simp only [Act.put]
    rw [Array.getElem?_setIfInBounds_self_of_lt (by rw [E.size]; exact hd')]
  · have hb : Nat.beq d t = false := by
      cases hq : Nat.beq d t with
      | false => rfl
      | true => exact absurd (Nat.eq_of_beq_eq_true hq) e
    rw [hb] at h
    simp at h
    simp only [Act.put]
    rw [Array.getElem?_setIfInBounds_ne e]
    exact E.get t u h
theorem Env.nil (E : Env n a env) : Env n a [] := ⟨E.size, E.defers, fun t v h => by cases h⟩
theorem Env.keep {env' : List (Nat × Value)} (E' : Env n a env') (E : Env n a env) (t : Nat) {v : Value} (h : look env t = some v) : Env n a ((t, v) :: env') := by
  refine ⟨E.size, E.defers, fun k u hk => ?_⟩
  simp only [look] at hk
  by_cases e : t = k
  · subst e
    simp at hk
    subst hk
    exact E.get _ _ h
  · have hb : Nat.beq t k = false := by
      cases hq : Nat.beq t k with
      | false => rfl
      | true => exact absurd (Nat.eq_of_beq_eq_true hq) e
    rw [hb] at hk
    simp at hk
    exact E'.get _ _ hk
def opv (env : List (Nat × Value)) : Operand → Option Value
  | .tmp t => look env t
  | .const v => some v
  | .global g => some (.pointer (some ⟨g, 0, none⟩))
  | .func f => some (.func (.func f) #[] #[])
theorem Env.eval (E : Env n a env) {x : Operand} {v : Value} (h : opv env x = some v) : a.eval x = v := by
  cases x with
  | tmp t =>
    have := E.get t v h
    simp [Act.eval, Array.getD_eq_getD_getElem?, this]
  | const u => simpa [opv, Act.eval] using h
  | global g => simpa [opv, Act.eval] using h
  | func f => simpa [opv, Act.eval] using h
def opvs (env : List (Nat × Value)) : List Operand → Option (List Value)
  | [] => some []
  | x :: r => match opv env x, opvs env r with
    | some v, some vs => some (v :: vs)
    | _, _ => none
theorem Env.evals (E : Env n a env) : ∀ {xs : List Operand} {vs : List Value}, opvs env xs = some vs → (xs.toArray.map a.eval) = vs.toArray := by
  intro xs
  induction xs with
  | nil => intro vs h; simp [opvs] at h; subst h; simp
  | cons x r ih =>
    intro vs h
    simp only [opvs] at h
    split at h
    · rename_i v us hx hr
      cases h
      have h1 := E.eval hx
      have h2 := ih hr
      simp only [List.map_toArray, List.map_cons] at h2 ⊢
      rw [h1]
      have h3 : List.map a.eval r = us := by simpa using h2
      rw [h3]
    · cases h
theorem Env.getD (E : Env n a env) {t : Nat} {v : Value} (h : look env t = some v) : a.tmps.getD t undef = v := by
  have := E.get t v h
  simp [Array.getD_eq_getD_getElem?, this]
/-- a new frame: the parameters, then undef. -/
theorem Env.enter (args : List Value) (m : Nat) (hm : args.length ≤ m) : Env m { tmps := args.toArray ++ Array.replicate (m - args.toArray.size) undef, defers := [] } (args.zipIdx.map fun (v, i) => (i, v)) := by
  refine ⟨by simp; omega, rfl, fun t v h => ?_⟩
  have key : ∀ (l : List Value) (k t : Nat) (v : Value), look ((l.zipIdx k).map fun (v, i) => (i, v)) t = some v → k ≤ t ∧ l[t - k]? = some v := by
    intro l
    induction l with
    | nil => intro k t v h; simp [look] at h
    | cons x l ih =>
      intro k t v h
      simp only [List.zipIdx_cons, List.map_cons, look] at h
      cases hq : Nat.beq k t with
      | true =>
        rw [hq] at h
        have : k = t := Nat.eq_of_beq_eq_true hq
        subst this
        simpa using h
      | false =>
        rw [hq] at h
        have hne : k ≠ t := fun e => by subst e; simp at hq
        obtain ⟨h1, h2⟩ := ih (k + 1) t v h
        refine ⟨by omega, ?_⟩
        have : t - k = (t - (k + 1)) + 1 := by omega
        rw [this]
        simpa using h2
  obtain ⟨_, h2⟩ := key args 0 t v h
  simp only [Nat.sub_zero] at h2
  have hlt : t < args.length := by
    rcases Nat.lt_or_ge t args.length with h | h
    · exact h
    · rw [List.getElem?_eq_none h] at h2; cases h2
  show (args.toArray ++ Array.replicate (m - args.toArray.size) undef)[t]? = some v
  rw [Array.getElem?_append_left (by simpa using hlt)]
  simpa using h2
end

/-! ### what is kept -/
structure Kp (ok : Nat → Prop) (w w' : World) : Prop where
  os : w'.os = w.os
  tape : w'.tape = w.tape
  output : w'.output = w.output
  size : w.heap.size ≤ w'.heap.size
  block : ∀ b, b < w.heap.size → ok b → w'.heap[b]? = w.heap[b]?
theorem Kp.refl (ok : Nat → Prop) (w : World) : Kp ok w w := ⟨rfl, rfl, rfl, Nat.le_refl _, fun _ _ _ => rfl⟩
theorem Kp.trans {ok : Nat → Prop} {a b c : World} (h : Kp ok a b) (k : Kp ok b c) : Kp ok a c :=
  ⟨k.os.trans h.os, k.tape.trans h.tape, k.output.trans h.output, Nat.le_trans h.size k.size, fun i hi ho => (k.block i (Nat.lt_of_lt_of_le hi h.size) ho).trans (h.block i hi ho)⟩
theorem Kp.mono {ok ok' : Nat → Prop} {w w' : World} (h : Kp ok w w') (hk : ∀ b, b < w.heap.size → ok' b → ok b) : Kp ok' w w' := ⟨h.os, h.tape, h.output, h.size, fun b hb ho => h.block b hb (hk b hb ho)⟩
theorem Kp.drew (ok : Nat → Prop) (w : World) : Kp ok w w.drew := ⟨rfl, rfl, rfl, Nat.le_refl _, fun _ _ _ => rfl⟩
theorem Kp.drawn (ok : Nat → Prop) (w : World) (n : Nat) : Kp ok w { w with drawn := n } := ⟨rfl, rfl, rfl, Nat.le_refl _, fun _ _ _ => rfl⟩
theorem Kp.alloc (ok : Nat → Prop) (w : World) (o : Obj) : Kp ok w (w.alloc o) := ⟨rfl, rfl, rfl, by simp, fun b hb _ => heap_alloc_old w o hb⟩
theorem Kp.setCell (w : World) (p : Addr) (v : Value) : Kp (fun b => b ≠ p.block) w (w.setCell p v) :=
  ⟨rfl, rfl, rfl, by simp [World.setCell], fun b _ hb => Below.heap_setCell w p v b hb⟩
theorem Kp.grown {w w' : World} {row : Option Nat} (h : w.grownBy w' row) : Kp (fun b => some b ≠ row) w w' := ⟨h.os, h.tape, h.output, h.size, fun b hb ho => h.block b hb ho⟩
theorem Kp.cell {ok : Nat → Prop} {w w' : World} (h : Kp ok w w') {p : Addr} {v : Value} (ho : ok p.block) (hc : w.cell? p = some v) : w'.cell? p = some v :=
  (World.cell?_of_block (h.block p.block (World.block_lt_of_cell? w p hc) ho)).trans hc

/-! ### reads, objects -/
structure Rp where
  p : World → (Nat → Prop) → Prop
  keep : ∀ {w w' : World} {ok ok' : Nat → Prop}, p w ok → Kp ok w w' → (∀ b, b < w.heap.size → ok b → ok' b) → p w' ok'
structure Ob where
  p : World → (Nat → Prop) → (Nat → Prop) → Prop
  keep : ∀ {w w' : World} {own own' ok ok' : Nat → Prop}, p w own ok → Kp (fun b => own b ∨ ok b) w w' → (∀ b, b < w.heap.size → own b → own' b) → (∀ b, b < w.heap.size → ok b → ok' b) → p w' own' ok'
instance : Inhabited Ob := ⟨⟨fun _ _ _ => True, fun _ _ _ _ => trivial⟩⟩

def Sep (w : World) (os : List Ob) (rs : List Rp) : Prop :=
  ∃ col : Nat → Nat, (∀ (i : Nat) (o : Ob), os[i]? = some o → o.p w (fun b => col b = i + 1) (fun b => col b = 0)) ∧ ∀ r : Rp, r ∈ rs → r.p w (fun b => col b = 0)

section
variable {w w' : World} {os os' : List Ob} {rs rs' : List Rp}
theorem Sep.kept (H : Sep w os rs) (k : Kp (fun _ => True) w w') : Sep w' os rs := by
  obtain ⟨col, h1, h2⟩ := H
  exact ⟨col, fun i o hi => o.keep (h1 i o hi) (k.mono fun _ _ _ => trivial) (fun _ _ h => h) (fun _ _ h => h), fun r hr => r.keep (h2 r hr) (k.mono fun _ _ _ => trivial) (fun _ _ h => h)⟩
theorem Sep.drew (H : Sep w os rs) : Sep w.drew os rs := H.kept (Kp.drew _ w)
theorem Sep.reads (H : Sep w os rs) (h : ∀ r : Rp, r ∈ rs' → r ∈ rs) : Sep w os rs' := by
  obtain ⟨col, h1, h2⟩ := H
  exact ⟨col, h1, fun r hr => h2 r (h r hr)⟩
/-- one more read, out of the reads. -/
theorem Sep.derive (H : Sep w os rs) (r : Rp) (h : ∀ ok, (∀ x : Rp, x ∈ rs → x.p w ok) → r.p w ok) : Sep w os (r :: rs) := by
  obtain ⟨col, h1, h2⟩ := H
  refine ⟨col, h1, fun x hx => ?_⟩
  cases hx with
  | head => exact h _ h2
  | tail _ hx => exact h2 x hx
theorem Sep.derive1 (H : Sep w os rs) {r0 : Rp} (h0 : r0 ∈ rs) (r : Rp) (h : ∀ ok, r0.p w ok → r.p w ok) : Sep w os (r :: rs) :=
  H.derive r fun ok hx => h ok (hx r0 h0)
theorem Sep.rd (H : Sep w os rs) {r : Rp} (h : r ∈ rs) : ∃ ok, r.p w ok := by
  obtain ⟨col, h1, h2⟩ := H
  exact ⟨_, h2 r h⟩
theorem Sep.ob (H : Sep w os rs) (i : Nat) {o : Ob} (h : os[i]? = some o) : ∃ own ok, o.p w own ok := by
  obtain ⟨col, h1, h2⟩ := H
  exact ⟨_, _, h1 i o h⟩
/-- object i turns, within its own blocks and new ones. -/
theorem Sep.upd_col {col : Nat → Nat} (h1 : ∀ (i : Nat) (o : Ob), os[i]? = some o → o.p w (fun b => col b = i + 1) (fun b => col b = 0)) (h2 : ∀ r : Rp, r ∈ rs → r.p w (fun b => col b = 0)) (i : Nat) {o o' : Ob} (hi : os[i]? = some o)
    (hk : Kp (fun b => ¬ col b = i + 1) w w') (ho : o'.p w' (fun b => col b = i + 1 ∨ w.heap.size ≤ b) (fun b => col b = 0 ∧ b < w.heap.size)) : Sep w' (os.set i o') rs := by
  have hlt : i < os.length := by
    rcases Nat.lt_or_ge i os.length with h | h
    · exact h
    · rw [List.getElem?_eq_none h] at hi; cases hi
  refine ⟨fun b => if w.heap.size ≤ b then i + 1 else col b, fun j x hj => ?_, fun r hr => ?_⟩
  · by_cases e : i = j
    · subst e
      rw [List.getElem?_set_self hlt] at hj
      cases hj
      refine o'.keep ho (Kp.refl _ _) (fun b _ hb => ?_) (fun b _ hb => ?_)
      · rcases hb with hb | hb
        · show (if w.heap.size ≤ b then i + 1 else col b) = i + 1
          split <;> simp_all
        · show (if w.heap.size ≤ b then i + 1 else col b) = i + 1
          rw [if_pos hb]
      · show (if w.heap.size ≤ b then i + 1 else col b) = 0
        rw [if_neg (by omega)]; exact hb.1
    · rw [List.getElem?_set_ne e] at hj
      refine x.keep (h1 j x hj) (hk.mono fun b _ hb => ?_) (fun b hb h => ?_) (fun b hb h => ?_)
      · show ¬ col b = i + 1
        rcases hb with hb | hb <;> omega
      · show (if w.heap.size ≤ b then i + 1 else col b) = j + 1
        rw [if_neg (by omega)]; exact h
      · show (if w.heap.size ≤ b then i + 1 else col b) = 0
        rw [if_neg (by omega)]; exact h
  · refine r.keep (h2 r hr) (hk.mono fun b _ hb => by show ¬ col b = i + 1; omega) (fun b hb h => ?_)
    show (if w.heap.size ≤ b then i + 1 else col b) = 0
    rw [if_neg (by omega)]; exact h
theorem Sep.upd (H : Sep w os rs) (i : Nat) {o o' : Ob} (hi : os[i]? = some o)
    (h : ∀ own ok : Nat → Prop, (∀ b, own b → ¬ ok b) → o.p w own ok → Kp (fun b => ¬ own b) w w' ∧ o'.p w' (fun b => own b ∨ w.heap.size ≤ b) (fun b => ok b ∧ b < w.heap.size)) : Sep w' (os.set i o') rs := by
  obtain ⟨col, h1, h2⟩ := H
  obtain ⟨hk, ho⟩ := h (fun b => col b = i + 1) (fun b => col b = 0) (fun b h h' => by omega) (h1 i o hi)
  exact Sep.upd_col h1 h2 i hi hk ho
/-- a new object, of new blocks. -/
theorem Sep.new (H : Sep w os rs) {o : Ob} (hk : Kp (fun _ => True) w w') (h : ∀ ok : Nat → Prop, (∀ r : Rp, r ∈ rs → r.p w ok) → o.p w' (fun b => w.heap.size ≤ b) (fun b => ok b ∧ b < w.heap.size)) : Sep w' (o :: os) rs := by
  obtain ⟨col, h1, h2⟩ := H
  refine ⟨fun b => if w.heap.size ≤ b then 1 else if col b = 0 then 0 else col b + 1, fun j x hj => ?_, fun r hr => ?_⟩
  · cases j with
    | zero =>
      simp at hj
      subst hj
      refine o.keep (h _ h2) (Kp.refl _ _) (fun b _ hb => ?_) (fun b _ hb => ?_)
      · show (if w.heap.size ≤ b then 1 else _) = 0 + 1
        rw [if_pos hb]
      · show (if w.heap.size ≤ b then 1 else if col b = 0 then 0 else col b + 1) = 0
        rw [if_neg (by omega), if_pos hb.1]
    | succ j =>
      simp at hj
      refine x.keep (h1 j x hj) (hk.mono fun _ _ _ => trivial) (fun b hb h => ?_) (fun b hb h => ?_)
      · show (if w.heap.size ≤ b then 1 else if col b = 0 then 0 else col b + 1) = j + 1 + 1
        rw [if_neg (by omega), if_neg (by omega), h]
      · show (if w.heap.size ≤ b then 1 else if col b = 0 then 0 else col b + 1) = 0
        rw [if_neg (by omega), if_pos h]
  · refine r.keep (h2 r hr) (hk.mono fun _ _ _ => trivial) (fun b hb h => ?_)
    show (if w.heap.size ≤ b then 1 else if col b = 0 then 0 else col b + 1) = 0
    rw [if_neg (by omega), if_pos h]
/-- a new read, of new blocks. -/
theorem Sep.newR (H : Sep w os rs) {r : Rp} (hk : Kp (fun _ => True) w w') (h : ∀ ok : Nat → Prop, (∀ r : Rp, r ∈ rs → r.p w ok) → r.p w' (fun b => w.heap.size ≤ b ∨ ok b)) : Sep w' os (r :: rs) := by
  obtain ⟨col, h1, h2⟩ := H
  refine ⟨fun b => if w.heap.size ≤ b then 0 else col b, fun j x hj => ?_, fun x hx => ?_⟩
  · refine x.keep (h1 j x hj) (hk.mono fun _ _ _ => trivial) (fun b hb h => ?_) (fun b hb h => ?_)
    · show (if w.heap.size ≤ b then 0 else col b) = j + 1
      rw [if_neg (by omega)]; exact h
    · show (if w.heap.size ≤ b then 0 else col b) = 0
      rw [if_neg (by omega)]; exact h
  · cases hx with
    | head =>
      refine r.keep (h _ h2) (Kp.refl _ _) (fun b _ hb => ?_)
      show (if w.heap.size ≤ b then 0 else col b) = 0
      rcases hb with hb | hb
      · rw [if_pos hb]
      · split
        · rfl
        · exact hb
    | tail _ hx =>
      refine x.keep (h2 x hx) (hk.mono fun _ _ _ => trivial) (fun b hb h => ?_)
      show (if w.heap.size ≤ b then 0 else col b) = 0
      rw [if_neg (by omega)]; exact h
/-- an object is given up: it is a read from now on. -/
theorem Sep.freeze (H : Sep w os rs) (i : Nat) {o : Ob} (hi : os[i]? = some o) (r : Rp) (h : ∀ own ok : Nat → Prop, o.p w own ok → r.p w (fun b => own b ∨ ok b)) : Sep w (os.eraseIdx i) (r :: rs) := by
  obtain ⟨col, h1, h2⟩ := H
  refine ⟨fun b => if col b = i + 1 then 0 else if i + 1 < col b then col b - 1 else col b, fun j x hj => ?_, fun x hx => ?_⟩
  · rw [List.getElem?_eraseIdx] at hj
    split at hj
    · rename_i hji
      refine x.keep (h1 j x hj) (Kp.refl _ _) (fun b _ hb => ?_) (fun b _ hb => ?_)
      · show (if col b = i + 1 then 0 else if i + 1 < col b then col b - 1 else col b) = j + 1
        rw [if_neg (by omega), if_neg (by omega)]; exact hb
      · show (if col b = i + 1 then 0 else if i + 1 < col b then col b - 1 else col b) = 0
        rw [if_neg (by omega), if_neg (by omega)]; exact hb
    · rename_i hji
      refine x.keep (h1 (j + 1) x hj) (Kp.refl _ _) (fun b _ hb => ?_) (fun b _ hb => ?_)
      · show (if col b = i + 1 then 0 else if i + 1 < col b then col b - 1 else col b) = j + 1
        rw [if_neg (by omega), if_pos (by omega)]; omega
      · show (if col b = i + 1 then 0 else if i + 1 < col b then col b - 1 else col b) = 0
        rw [if_neg (by omega), if_neg (by omega)]; exact hb
  · cases hx with
    | head =>
      refine r.keep (h _ _ (h1 i o hi)) (Kp.refl _ _) (fun b _ hb => ?_)
      show (if col b = i + 1 then 0 else if i + 1 < col b then col b - 1 else col b) = 0
      rcases hb with hb | hb
      · rw [if_pos hb]
      · rw [if_neg (by omega), if_neg (by omega)]; exact hb
    | tail _ hx =>
      refine x.keep (h2 x hx) (Kp.refl _ _) (fun b _ hb => ?_)
      show (if col b = i + 1 then 0 else if i + 1 < col b then col b - 1 else col b) = 0
      rw [if_neg (by omega), if_neg (by omega)]; exact hb
/-- an object is forgotten. -/
theorem Sep.drop (H : Sep w os rs) (i : Nat) : Sep w (os.eraseIdx i) rs := by
  cases hi : os[i]? with
  | none =>
    have : os.eraseIdx i = os := List.eraseIdx_of_length_le (by
      rcases Nat.lt_or_ge i os.length with h | h
      · rw [List.getElem?_eq_getElem h] at hi; cases hi
      · exact h)
    rw [this]; exact H
  | some o => exact (H.freeze i hi ⟨fun _ _ => True, fun _ _ _ => trivial⟩ (fun _ _ _ => trivial)).reads fun r hr => .tail _ hr
/-- object i comes first. -/
theorem Sep.front (H : Sep w os rs) (i : Nat) {o : Ob} (hi : os[i]? = some o) : Sep w (o :: os.eraseIdx i) rs := by
  obtain ⟨col, h1, h2⟩ := H
  refine ⟨fun b => if col b = i + 1 then 1 else if col b = 0 then 0 else if col b < i + 1 then col b + 1 else col b, fun j x hj => ?_, fun x hx => ?_⟩
  · cases j with
    | zero =>
      simp at hj
      subst hj
      refine o.keep (h1 i o hi) (Kp.refl _ _) (fun b _ hb => ?_) (fun b _ hb => ?_)
      · show (if col b = i + 1 then 1 else if col b = 0 then 0 else if col b < i + 1 then col b + 1 else col b) = 0 + 1
        rw [if_pos hb]
      · show (if col b = i + 1 then 1 else if col b = 0 then 0 else if col b < i + 1 then col b + 1 else col b) = 0
        rw [if_neg (by omega), if_pos hb]
    | succ j =>
      simp only [List.getElem?_cons_succ] at hj
      rw [List.getElem?_eraseIdx] at hj
      split at hj
      · rename_i hji
        refine x.keep (h1 j x hj) (Kp.refl _ _) (fun b _ hb => ?_) (fun b _ hb => ?_)
        · show (if col b = i + 1 then 1 else if col b = 0 then 0 else if col b < i + 1 then col b + 1 else col b) = j + 1 + 1
          rw [if_neg (by omega), if_neg (by omega), if_pos (by omega), hb]
        · show (if col b = i + 1 then 1 else if col b = 0 then 0 else if col b < i + 1 then col b + 1 else col b) = 0
          rw [if_neg (by omega), if_pos hb]
      · rename_i hji
        refine x.keep (h1 (j + 1) x hj) (Kp.refl _ _) (fun b _ hb => ?_) (fun b _ hb => ?_)
        · show (if col b = i + 1 then 1 else if col b = 0 then 0 else if col b < i + 1 then col b + 1 else col b) = j + 1 + 1
          rw [if_neg (by omega), if_neg (by omega), if_neg (by omega), hb]
        · show (if col b = i + 1 then 1 else if col b = 0 then 0 else if col b < i + 1 then col b + 1 else col b) = 0
          rw [if_neg (by omega), if_pos hb]
  · refine x.keep (h2 x hx) (Kp.refl _ _) (fun b _ hb => ?_)
    show (if col b = i + 1 then 1 else if col b = 0 then 0 else if col b < i + 1 then col b + 1 else col b) = 0
    rw [if_neg (by omega), if_pos hb]
end
end Go.Cb
