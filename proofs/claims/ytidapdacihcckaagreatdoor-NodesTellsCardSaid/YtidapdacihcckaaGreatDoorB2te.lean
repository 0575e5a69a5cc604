/- Base 2: kinds of data, slices that are read, rows that are owned, blocks; how operations run on them. -/
import Derived.Test.YtidapdacihcckaaGreatDoorB1te
set_option linter.unusedVariables false
set_option linter.unusedSimpArgs false
namespace Go.Cb
open Go.RowKit

/-! ### kinds of data: how a datum lies in cells -/
structure Kd (α : Type) where
  sz : Nat
  pos : 0 < sz
  R : World → (Nat → Prop) → α → List Value → Prop
  len : ∀ {w : World} {ok : Nat → Prop} {x : α} {cs : List Value}, R w ok x cs → cs.length = sz
  one : ∀ {w : World} {ok : Nat → Prop} {x : α} {cs : List Value}, R w ok x cs → ∀ c ∈ cs, c.oneCell' = true
  keep : ∀ {w w' : World} {ok ok' : Nat → Prop} {x : α} {cs : List Value}, R w ok x cs → Kp ok w w' → (∀ b, b < w.heap.size → ok b → ok' b) → R w' ok' x cs
def Kd.scalar {α : Type} (f : α → Value) (h : ∀ x, (f x).oneCell' = true) : Kd α where
  sz := 1
  pos := Nat.one_pos
  R _ _ x cs := cs = [f x]
  len h := by subst h; rfl
  one e := by intro c hc; subst e; simp at hc; subst hc; exact h _
  keep h _ _ := h
def kI (k : IntKind) : Kd Int := Kd.scalar (Value.int k) fun _ => rfl
def kB : Kd Bool := Kd.scalar Value.bool fun _ => rfl
def kS : Kd ByteArray := Kd.scalar Value.string fun _ => rfl
def kP {α β : Type} (a : Kd α) (b : Kd β) : Kd (α × β) where
  sz := a.sz + b.sz
  pos := Nat.add_pos_left a.pos _
  R w ok x cs := ∃ c1 c2, cs = c1 ++ c2 ∧ a.R w ok x.1 c1 ∧ b.R w ok x.2 c2
  len := by rintro w ok x cs ⟨c1, c2, rfl, h1, h2⟩; rw [List.length_append, a.len h1, b.len h2]
  one := by
    rintro w ok x cs ⟨c1, c2, rfl, h1, h2⟩ c hc
    rcases List.mem_append.1 hc with hc | hc
    · exact a.one h1 c hc
    · exact b.one h2 c hc
  keep := by rintro w w' ok ok' x cs ⟨c1, c2, rfl, h1, h2⟩ k hk; exact ⟨c1, c2, rfl, a.keep h1 k hk, b.keep h2 k hk⟩
def kMap {α β : Type} (d : Kd α) (f : β → α) : Kd β where
  sz := d.sz
  pos := d.pos
  R w ok x cs := d.R w ok (f x) cs
  len := d.len
  one := d.one
  keep := d.keep

/-- the flat cells of a row of data. -/
def Rows {α : Type} (d : Kd α) (w : World) (ok : Nat → Prop) (xs : List α) (flat : List Value) : Prop :=
  flat.length = xs.length * d.sz ∧ ∀ i x, xs[i]? = some x → d.R w ok x ((flat.drop (i * d.sz)).take d.sz)
/-- a slice that is read. -/
def Sl {α : Type} (d : Kd α) (w : World) (ok : Nat → Prop) (v : Value) (xs : List α) : Prop :=
  ∃ a c flat, v = .slice a xs.length c ∧ xs.length ≤ c ∧ Rows d w ok xs flat ∧ (xs ≠ [] → ∃ ad, a = some ad ∧ ok ad.block ∧ ∀ j u, flat[j]? = some u → w.cell? (ad.add j) = some u)

section rows
variable {α : Type} {d : Kd α} {w w' : World} {ok ok' : Nat → Prop} {xs ys : List α} {f g : List Value}
theorem Rows.nil (d : Kd α) (w : World) (ok : Nat → Prop) : Rows d w ok [] [] := ⟨by simp, fun i x h => by simp at h⟩
theorem Rows.keep (h : Rows d w ok xs f) (k : Kp ok w w') (hk : ∀ b, b < w.heap.size → ok b → ok' b) : Rows d w' ok' xs f :=
  ⟨h.1, fun i x hx => d.keep (h.2 i x hx) k hk⟩
theorem take_of_append_left {β : Type} (f g : List β) (a n : Nat) (h : a + n ≤ f.length) : ((f ++ g).drop a).take n = (f.drop a).take n := by
  rw [List.drop_append_of_le_length (by omega), List.take_append_of_le_length (by rw [List.length_drop]; omega)]
theorem Rows.append (h : Rows d w ok xs f) (k : Rows d w ok ys g) : Rows d w ok (xs ++ ys) (f ++ g) := by
  refine ⟨by rw [List.length_append, List.length_append, h.1, k.1, Nat.add_mul], fun i x hx => ?_⟩
  rcases Nat.lt_or_ge i xs.length with hi | hi
  · rw [List.getElem?_append_left hi] at hx
    have hb : i * d.sz + d.sz ≤ f.length := by
      rw [h.1, ← Nat.succ_mul]; exact Nat.mul_le_mul_right _ hi
    rw [take_of_append_left _ _ _ _ hb]
    exact h.2 i x hx
  · rw [List.getElem?_append_right hi] at hx
    have hb : f.length ≤ i * d.sz := by rw [h.1]; exact Nat.mul_le_mul_right _ hi
    rw [List.drop_append, List.drop_eq_nil_of_le hb, List.nil_append]
    have : i * d.sz - f.length = (i - xs.length) * d.sz := by rw [h.1, Nat.sub_mul]
    rw [this]
    exact k.2 _ x hx
theorem Rows.single {x : α} {cs : List Value} (h : d.R w ok x cs) : Rows d w ok [x] cs := by
  refine ⟨by simp [d.len h], fun i y hy => ?_⟩
  cases i with
  | zero => simp at hy; subst hy; simp [List.take_of_length_le (Nat.le_of_eq (d.len h)), h]
  | succ i => simp at hy
theorem Rows.set (h : Rows d w ok xs f) {i : Nat} {x : α} {cs : List Value} (hx : d.R w ok x cs) (hi : i < xs.length) :
    Rows d w ok (xs.set i x) (f.take (i * d.sz) ++ cs ++ f.drop (i * d.sz + d.sz)) := by
  have hcs := d.len hx
  have hb : i * d.sz + d.sz ≤ f.length := by rw [h.1, ← Nat.succ_mul]; exact Nat.mul_le_mul_right _ hi
  have h1 : (f.take (i * d.sz)).length = i * d.sz := by rw [List.length_take]; omega
  refine ⟨by rw [List.length_append, List.length_append, h1, hcs, List.length_drop, List.length_set, ← h.1]; omega, fun j y hy => ?_⟩
  rw [List.append_assoc]
  rcases Nat.lt_trichotomy j i with hj | hj | hj
  · rw [List.getElem?_set_ne (by omega)] at hy
    have hbj : j * d.sz + d.sz ≤ i * d.sz := by rw [← Nat.succ_mul]; exact Nat.mul_le_mul_right _ hj
    rw [take_of_append_left _ _ _ _ (by rw [h1]; exact hbj), List.drop_take, List.take_take, Nat.min_eq_left (by omega)]
    exact h.2 j y hy
  · subst hj
    rw [List.getElem?_set_self hi] at hy
    cases hy
    rw [List.drop_append, List.drop_eq_nil_of_le (by omega), List.nil_append, h1, Nat.sub_self, List.drop_zero, List.take_append_of_le_length (by omega), List.take_of_length_le (by omega)]
    exact hx
  · rw [List.getElem?_set_ne (by omega)] at hy
    have hbj : i * d.sz + d.sz ≤ j * d.sz := by rw [← Nat.succ_mul]; exact Nat.mul_le_mul_right _ hj
    rw [List.drop_append, List.drop_eq_nil_of_le (by omega), List.nil_append, h1, List.drop_append, List.drop_eq_nil_of_le (by omega), List.nil_append, List.drop_drop, hcs]
    rw [show i * d.sz + d.sz + (j * d.sz - i * d.sz - d.sz) = j * d.sz from by omega]
    exact h.2 j y hy
theorem Rows.take (h : Rows d w ok xs f) (n : Nat) (hn : n ≤ xs.length) : Rows d w ok (xs.take n) (f.take (n * d.sz)) := by
  have hb : n * d.sz ≤ f.length := by rw [h.1]; exact Nat.mul_le_mul_right _ hn
  refine ⟨by rw [List.length_take, List.length_take, Nat.min_eq_left hb, Nat.min_eq_left hn], fun i x hx => ?_⟩
  rw [List.getElem?_take] at hx
  split at hx
  · rename_i hi
    have hbi : i * d.sz + d.sz ≤ n * d.sz := by rw [← Nat.succ_mul]; exact Nat.mul_le_mul_right _ hi
    rw [List.drop_take, List.take_take, Nat.min_eq_left (by omega)]
    exact h.2 i x hx
  · cases hx
theorem Rows.drop (h : Rows d w ok xs f) (n : Nat) : Rows d w ok (xs.drop n) (f.drop (n * d.sz)) := by
  refine ⟨by rw [List.length_drop, List.length_drop, h.1, Nat.sub_mul], fun i x hx => ?_⟩
  rw [List.getElem?_drop] at hx
  rw [List.drop_drop, ← Nat.add_mul]
  exact h.2 _ x hx
theorem Rows.one (h : Rows d w ok xs f) : ∀ c ∈ f, c.oneCell' = true := by
  intro c hc
  obtain ⟨j, hj, rfl⟩ := List.getElem_of_mem hc
  have h0 := d.pos
  have hlt : j / d.sz < xs.length := by rw [Nat.div_lt_iff_lt_mul h0]; rw [← h.1]; exact hj
  have hr := h.2 (j / d.sz) _ (List.getElem?_eq_getElem hlt)
  refine d.one hr _ ?_
  rw [List.mem_iff_getElem?]
  refine ⟨j % d.sz, ?_⟩
  rw [List.getElem?_take_of_lt (Nat.mod_lt _ h0), List.getElem?_drop]
  rw [Nat.mul_comm, Nat.div_add_mod]
  exact List.getElem?_eq_getElem hj
theorem Rows.cell (h : Rows d w ok xs f) {i : Nat} {x : α} (hx : xs[i]? = some x) : ∃ cs, d.R w ok x cs ∧ ∀ j u, cs[j]? = some u → f[i * d.sz + j]? = some u := by
  refine ⟨_, h.2 i x hx, fun j u hu => ?_⟩
  rw [List.getElem?_take] at hu
  split at hu
  · rw [List.getElem?_drop] at hu; exact hu
  · cases hu
theorem add_block (a : Addr) (n : Nat) : (a.add n).block = a.block := by unfold Addr.add; split <;> rfl
theorem add_add (a : Addr) (i j : Nat) : (a.add i).add j = a.add (i + j) := by
  unfold Addr.add
  by_cases hi : i = 0 <;> by_cases hj : j = 0 <;> simp [hi, hj, Nat.add_assoc]
theorem add_lit (g o j : Nat) : (⟨g, o, none⟩ : Addr).add j = ⟨g, o + j, none⟩ := by unfold Addr.add; split <;> simp_all
theorem Rows.ne_nil (h : Rows d w ok xs f) (hx : xs ≠ []) : ∃ u, f[0]? = some u := by
  cases hf : f with
  | nil =>
    exfalso
    have := h.1
    rw [hf] at this
    have h1 := d.pos
    have h2 : 0 < xs.length := List.length_pos_iff.2 hx
    have := Nat.mul_pos h2 h1
    simp at *
    omega
  | cons u _ => exact ⟨u, rfl⟩
theorem Sl.keep {v : Value} (h : Sl d w ok v xs) (k : Kp ok w w') (hk : ∀ b, b < w.heap.size → ok b → ok' b) : Sl d w' ok' v xs := by
  obtain ⟨a, c, flat, rfl, hc, hr, hm⟩ := h
  refine ⟨a, c, flat, rfl, hc, hr.keep k hk, fun hne => ?_⟩
  obtain ⟨ad, rfl, ho, hcell⟩ := hm hne
  obtain ⟨u, hu⟩ := hr.ne_nil hne
  have hb := World.block_lt_of_cell? w _ (hcell 0 u hu)
  rw [add_block] at hb
  exact ⟨ad, rfl, hk _ hb ho, fun j u hu => k.cell (by rw [add_block]; exact ho) (hcell j u hu)⟩
theorem Sl.nil (d : Kd α) (w : World) (ok : Nat → Prop) : Sl d w ok (.slice none 0 0) [] := ⟨none, 0, [], rfl, Nat.le_refl _, Rows.nil _ _ _, fun h => absurd rfl h⟩
theorem Sl.take {a : Option Addr} {n c : Nat} (h : Sl d w ok (.slice a n c) xs) (m : Nat) (hm : m ≤ xs.length) : Sl d w ok (.slice a m c) (xs.take m) := by
  obtain ⟨a', c', flat, he, hc, hr, hcell⟩ := h
  cases he
  have hl : (xs.take m).length = m := by rw [List.length_take]; omega
  refine ⟨a, c, flat.take (m * d.sz), by rw [hl], by omega, hr.take m hm, fun hne => ?_⟩
  obtain ⟨ad, ha, ho, hx⟩ := hcell (fun e => hne (by rw [e]; simp))
  refine ⟨ad, ha, ho, fun j u hu => hx j u ?_⟩
  rw [List.getElem?_take] at hu
  split at hu
  · exact hu
  · cases hu
theorem Sl.form {v : Value} (h : Sl d w ok v xs) : ∃ a c, v = .slice a xs.length c ∧ xs.length ≤ c := by
  obtain ⟨a, c, flat, rfl, hc, _⟩ := h; exact ⟨a, c, rfl, hc⟩
theorem Sl.flat {v : Value} (h : Sl d w ok v xs) : ∃ a c flat, v = .slice a xs.length c ∧ Rows d w ok xs flat ∧ ((a = none ∧ xs = []) ∨ ∃ ad, a = some ad ∧ ∀ j u, flat[j]? = some u → w.cell? (ad.add j) = some u) := by
  obtain ⟨a, c, flat, rfl, hc, hr, hm⟩ := h
  refine ⟨a, c, flat, rfl, hr, ?_⟩
  by_cases hx : xs = []
  · cases a with
    | none => exact .inl ⟨rfl, hx⟩
    | some ad =>
      refine .inr ⟨ad, rfl, fun j u hu => ?_⟩
      have := hr.1
      rw [hx] at this
      simp at this
      subst this
      simp at hu
  · obtain ⟨ad, rfl, _, hcell⟩ := hm hx
    exact .inr ⟨ad, rfl, hcell⟩
end rows

def kL {α : Type} (d : Kd α) : Kd (List α) where
  sz := 1
  pos := Nat.one_pos
  R w ok xs cs := ∃ v, cs = [v] ∧ Sl d w ok v xs
  len := by rintro w ok xs cs ⟨v, rfl, _⟩; rfl
  one := by
    rintro w ok xs cs ⟨v, rfl, h⟩ c hc
    obtain ⟨a, c', rfl, _⟩ := h.form
    simp at hc
    subst hc
    rfl
  keep := by rintro w w' ok ok' xs cs ⟨v, rfl, h⟩ k hk; exact ⟨v, rfl, h.keep k hk⟩

/-! ### reads -/
def rSl {α : Type} (d : Kd α) (v : Value) (xs : List α) : Rp := ⟨fun w ok => Sl d w ok v xs, fun h k hk => h.keep k hk⟩
/-- at an address a datum lies that is read. -/
def rAt {α : Type} (d : Kd α) (q : Addr) (x : α) : Rp where
  p w ok := ok q.block ∧ ∃ cs, d.R w ok x cs ∧ ∀ j u, cs[j]? = some u → w.cell? (q.add j) = some u
  keep := by
    rintro w w' ok ok' ⟨ho, cs, hr, hc⟩ k hk
    have hl := d.len hr
    have hp := d.pos
    have hb : q.block < w.heap.size := by
      have := World.block_lt_of_cell? w _ (hc 0 cs[0] (List.getElem?_eq_getElem (by omega)))
      rwa [add_block] at this
    exact ⟨hk _ hb ho, cs, d.keep hr k hk, fun j u hu => k.cell (by rw [add_block]; exact ho) (hc j u hu)⟩
theorem rAt_fst {α β : Type} {A : Kd α} {B : Kd β} {q : Addr} {x : α} {y : β} {w : World} {ok : Nat → Prop} (h : (rAt (kP A B) q (x, y)).p w ok) : (rAt A q x).p w ok := by
  obtain ⟨ho, cs, ⟨c1, c2, rfl, h1, h2⟩, hc⟩ := h
  refine ⟨ho, c1, h1, fun j u hu => hc j u ?_⟩
  have hj : j < c1.length := by
    rcases Nat.lt_or_ge j c1.length with h | h
    · exact h
    · rw [List.getElem?_eq_none h] at hu; cases hu
  rw [List.getElem?_append_left hj]; exact hu
theorem rAt_snd {α β : Type} {A : Kd α} {B : Kd β} {q : Addr} {x : α} {y : β} {w : World} {ok : Nat → Prop} (h : (rAt (kP A B) q (x, y)).p w ok) : (rAt B (q.add A.sz) y).p w ok := by
  obtain ⟨ho, cs, ⟨c1, c2, rfl, h1, h2⟩, hc⟩ := h
  refine ⟨by rw [add_block]; exact ho, c2, h2, fun j u hu => ?_⟩
  rw [add_add, ← A.len h1]
  refine hc _ u ?_
  rw [List.getElem?_append_right (by omega), Nat.add_sub_cancel_left]; exact hu
/-- a datum whose cells are at hand. -/
def rCs {α : Type} (d : Kd α) (cs : List Value) (x : α) : Rp := ⟨fun w ok => d.R w ok x cs, fun h k hk => d.keep h k hk⟩
/-- below the world at the start nothing turns. -/
def rBelow (w0 : World) : Rp where
  p w ok := Below w0.heap.size w0 w ∧ ∀ b, b < w0.heap.size → ok b
  keep := by
    rintro w w' ok ok' ⟨h, ho⟩ k hk
    refine ⟨⟨k.os.trans h.os, k.tape.trans h.tape, k.output.trans h.output, Nat.le_trans h.size k.size, fun b hb => ?_⟩, fun b hb => hk b (Nat.lt_of_lt_of_le hb h.size) (ho b hb)⟩
    rw [k.block b (Nat.lt_of_lt_of_le hb h.size) (ho b hb), h.block b hb]

/-! ### objects -/
/-- block p is just these cells. -/
def Blk (p : Nat) (T : TypeId) (cs : List Value) : Ob where
  p w own _ := own p ∧ w.heap[p]? = some (.cells cs.toArray T (0, 0))
  keep := by
    rintro w w' own own' ok ok' ⟨h1, h2⟩ k ho _
    have hb : p < w.heap.size := (Array.getElem?_eq_some_iff.1 h2).1
    exact ⟨ho p hb h1, (k.block p hb (.inl h1)).trans h2⟩
/-- a row that is owned: appends may go on it. -/
def Row {α : Type} (e : TypeId) (d : Kd α) (v : Value) (xs : List α) : Ob where
  p w own ok := ∃ flat, w.ownsRow 0 e d.sz v xs.length flat ∧ Rows d w ok xs flat ∧ ∀ g, v.ownBlock = some g → own g
  keep := by
    rintro w w' own own' ok ok' ⟨flat, h1, h2, h3⟩ k ho hk
    refine ⟨flat, ?_, h2.keep (k.mono fun b _ h => .inr h) hk, fun g hg => ho g (h1.lt g hg).2 (h3 g hg)⟩
    obtain ⟨hl, hv⟩ := h1
    refine ⟨hl, ?_⟩
    rcases hv with hv | ⟨g, cap, cur, rfl, hb, hh, r⟩
    · exact .inl hv
    · exact .inr ⟨g, cap, cur, rfl, hb, (k.block g (Array.getElem?_eq_some_iff.1 hh).1 (.inl (h3 g rfl))).trans hh, r⟩
end Go.Cb
