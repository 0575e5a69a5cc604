/- Base 8: what stays readable while a region is gone through in whatever order. -/
import Derived.Test.YtidapdacihcckaaGreatDoorB7te
set_option linter.unusedVariables false
set_option linter.unusedSimpArgs false
namespace Go.Cb
open Go.RowKit
theorem subO_cons {o : Ob} {os L : List Ob} (h : o ∈ L) (hs : ∀ x, x ∈ os → x ∈ L) : ∀ x, x ∈ o :: os → x ∈ L := fun x hx => by
  cases hx with
  | head => exact h
  | tail _ hx => exact hs x hx
theorem subO_nil {L : List Ob} : ∀ x, x ∈ ([] : List Ob) → x ∈ L := fun x hx => by cases hx
theorem sub_nil {L : List Rp} : ∀ x, x ∈ ([] : List Rp) → x ∈ L := fun x hx => by cases hx
def IR (I : World → Prop) (r : Rp) : Prop := ∀ W, I W → ∃ ok, r.p W ok
section
variable {P : Program} {I : World → Prop} {os : List Ob} {rs : List Rp} {w : World}
theorem IR.imp {r r' : Rp} (h : IR I r) (k : ∀ w ok, r.p w ok → r'.p w ok) : IR I r' := fun W hW => let ⟨ok, hr⟩ := h W hW; ⟨ok, k W ok hr⟩
/-- a slice that is read, its cells told. -/
def rRow {α : Type} (d : Kd α) (v : Value) (xs : List α) (flat : List Value) : Rp where
  p w ok := ∃ a c, v = .slice a xs.length c ∧ Rows d w ok xs flat ∧ (xs ≠ [] → ∃ ad, a = some ad ∧ ok ad.block ∧ ∀ j u, flat[j]? = some u → w.cell? (ad.add j) = some u)
  keep := by
    rintro w w' ok ok' ⟨a, c, rfl, hr, hm⟩ k hk
    refine ⟨a, c, rfl, hr.keep k hk, fun hne => ?_⟩
    obtain ⟨ad, rfl, ho, hcell⟩ := hm hne
    obtain ⟨u, hu⟩ := hr.ne_nil hne
    have hb := World.block_lt_of_cell? w _ (hcell 0 u hu)
    rw [add_block] at hb
    exact ⟨ad, rfl, hk _ hb ho, fun j u hu => k.cell (by rw [add_block]; exact ho) (hcell j u hu)⟩
/-- a datum at an address, its cells told. -/
def rAw {α : Type} (d : Kd α) (q : Addr) (x : α) (cs : List Value) : Rp where
  p w ok := ok q.block ∧ d.R w ok x cs ∧ ∀ j u, cs[j]? = some u → w.cell? (q.add j) = some u
  keep := by
    rintro w w' ok ok' ⟨ho, hr, hc⟩ k hk
    have hl := d.len hr
    have hp := d.pos
    have hb : q.block < w.heap.size := by
      have := World.block_lt_of_cell? w _ (hc 0 cs[0] (List.getElem?_eq_getElem (by omega)))
      rwa [add_block] at this
    exact ⟨hk _ hb ho, d.keep hr k hk, fun j u hu => k.cell (by rw [add_block]; exact ho) (hc j u hu)⟩
theorem Sep.raw (H : Sep w os rs) {α : Type} {d : Kd α} {v : Value} {xs : List α} (hm : rSl d v xs ∈ rs) : ∃ flat, Sep w os (rRow d v xs flat :: rs) := by
  obtain ⟨col, h1, h2⟩ := H
  obtain ⟨a, c, flat, rfl, hc, hr, hcell⟩ := h2 _ hm
  refine ⟨flat, col, h1, fun r hr' => ?_⟩
  cases hr' with
  | head => exact ⟨a, c, rfl, hr, hcell⟩
  | tail _ hr' => exact h2 r hr'
theorem rAw_at {α : Type} {d : Kd α} {q : Addr} {x : α} {cs : List Value} (w : World) (ok : Nat → Prop) (h : (rAw d q x cs).p w ok) : (rAt d q x).p w ok := ⟨h.1, cs, h.2.1, h.2.2⟩
theorem rAw_fst {α β : Type} {A : Kd α} {B : Kd β} {q : Addr} {x : α} {y : β} {cs : List Value} {w : World} {ok : Nat → Prop} (h : (rAw (kP A B) q (x, y) cs).p w ok) : (rAw A q x (cs.take A.sz)).p w ok := by
  obtain ⟨ho, ⟨c1, c2, rfl, h1, h2⟩, hc⟩ := h
  have e : (c1 ++ c2).take A.sz = c1 := by rw [← A.len h1]; exact List.take_left
  rw [e]
  refine ⟨ho, h1, fun j u hu => hc j u ?_⟩
  have hj : j < c1.length := by
    rcases Nat.lt_or_ge j c1.length with h | h
    · exact h
    · rw [List.getElem?_eq_none h] at hu; cases hu
  rw [List.getElem?_append_left hj]; exact hu
theorem rAw_snd {α β : Type} {A : Kd α} {B : Kd β} {q : Addr} {x : α} {y : β} {cs : List Value} {w : World} {ok : Nat → Prop} (h : (rAw (kP A B) q (x, y) cs).p w ok) : (rAw B (q.add A.sz) y (cs.drop A.sz)).p w ok := by
  obtain ⟨ho, ⟨c1, c2, rfl, h1, h2⟩, hc⟩ := h
  have e : (c1 ++ c2).drop A.sz = c2 := by rw [← A.len h1]; exact List.drop_left
  rw [e]
  refine ⟨by rw [add_block]; exact ho, h2, fun j u hu => ?_⟩
  rw [add_add, ← A.len h1]
  refine hc _ u ?_
  rw [List.getElem?_append_right (by omega), Nat.add_sub_cancel_left]; exact hu
theorem ir_ld {α : Type} {f : α → Value} {h : ∀ x, (f x).oneCell' = true} {t : TypeId} {q : Addr} {y : α} {d : TypeDesc} (hr : IR I (rAt (Kd.scalar f h) q y)) (hu : P.underlying t = some d) (hp : plainDesc d = true) (W : World) (hW : I W) : (Instr.loadAt t (.pointer (some q))).run P W = .ok (f y) W := by
  obtain ⟨ok, _, cs, hcs, hc⟩ := hr W hW
  have hcs' : cs = [f y] := hcs
  subst hcs'
  exact run_ld1 hu hp (by have := hc 0 (f y) rfl; rwa [show q.add 0 = q from by simp [Addr.add]] at this)
/-- a struct whose cells are told by its data alone. -/
theorem ir_ldN {α : Type} {d : Kd α} {cs : List Value} {t : TypeId} {q : Addr} {y : α} {ds : TypeDesc} (hr : IR I (rAt d q y)) (hk : ∀ w ok c, d.R w ok y c → c = cs) (hu : P.underlying t = some ds) (hp : plainDesc ds = false) (hs : (P.info? t).map (·.size) = some cs.length) (W : World) (hW : I W) : (Instr.loadAt t (.pointer (some q))).run P W = .ok (.agg cs.toArray) W := by
  obtain ⟨ok, _, c, hcs, hc⟩ := hr W hW
  have := hk W ok c hcs
  subst this
  exact run_ldN hu hp hs hc
theorem still_cell {p : Nat} {T : TypeId} {cs : List Value} (ho : Blk p T cs ∈ os) {W : World} (hW : Still os rs W) {j : Nat} {v : Value} (hj : cs[j]? = some v) : W.cell? ⟨p, j, none⟩ = some v := by
  obtain ⟨os', rs', i, H, hi⟩ := Still.cell hW ho
  exact H.blk_cell hi hj
theorem ib_ld {p : Nat} {T t : TypeId} {cs : List Value} {j : Nat} {v : Value} {d : TypeDesc} (ho : Blk p T cs ∈ os) (hj : cs[j]? = some v) (hu : P.underlying t = some d) (hp : plainDesc d = true) (W : World) (hW : Still os rs W) : (Instr.loadAt t (.pointer (some ⟨p, j, none⟩))).run P W = .ok v W :=
  run_ld1 hu hp (still_cell ho hW hj)
theorem ib_ldN {p : Nat} {T t : TypeId} {cs us : List Value} {j : Nat} {d : TypeDesc} (ho : Blk p T cs ∈ os) (hj : (cs.drop j).take us.length = us) (hu : P.underlying t = some d) (hp : plainDesc d = false) (hs : (P.info? t).map (·.size) = some us.length) (W : World) (hW : Still os rs W) : (Instr.loadAt t (.pointer (some ⟨p, j, none⟩))).run P W = .ok (.agg us.toArray) W := by
  refine run_ldN hu hp hs fun k u hk => ?_
  rw [add_lit]
  refine still_cell ho hW ?_
  rw [← hj, List.getElem?_take] at hk
  split at hk
  · rw [List.getElem?_drop] at hk; exact hk
  · cases hk
end
section
variable {P : Program} {o : Oper} {w : World} {a : Act} {n : Nat} {env : List (Nat × Value)}
theorem x_ixA (E : Env n a env) {t : TypeId} {x i : Operand} {v u p : Value} (ho : o.op = .indexAddr t x i) (hx : opv env x = some v) (hi : opv env i = some u) (hr : (Instr.indexAt t v u).run P w = .ok p w) : (execOp a.eval o).run P w = .ok (.value p) w := by
  simp only [execOp, ho, E.eval hx, E.eval hi]
  simp [Sem.run_bind, hr]
end
end Go.Cb
